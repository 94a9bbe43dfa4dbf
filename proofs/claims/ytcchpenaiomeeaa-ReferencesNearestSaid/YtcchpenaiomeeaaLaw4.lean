/- The law of Nearest, Parent and Ancestors. -/
import Derived.Test.YtcchpenaiomeeaaNearC
import Derived.Test.YtcchpenaiomeeaaKnown
import Derived.Deep.CutBlock
import Derived.BigQuiet
namespace Go.Proofs.Ytcchpenaiomeeaa
open Go.RowKit
attribute [local go_sem] Oper.semAt_some
theorem AnyO.wanted_no {ops : Array Oper} {o : Oper} {b : Act} {g t : Nat} {want : Bool} (h : o.guard = some (g, want)) (hd : AnyO.dst ops g = some t) (hv : b.tmps[t]?.getD undef = .bool (!want)) : ¬ Region.wanted o (yielded ops b.tmps) = true := by
  unfold Region.wanted
  rw [h]
  show ¬ (yielded ops b.tmps g == some want) = true
  unfold yielded
  have hd' : (ops[g]?).bind (·.dst) = some t := hd
  rw [hd']
  show ¬ ((match b.tmps[t]? with | some (.bool b) => some b | _ => none) == some want) = true
  cases ht : b.tmps[t]? with
  | none => rw [ht] at hv; cases hv
  | some v =>
    rw [ht] at hv
    simp only [Option.getD_some] at hv
    subst hv
    cases want <;> simp
/-- The law's own boxes: its arguments, its result. -/
structure E4 (w : World) (v u : Value) (W : World) : Prop where
  c2 : W.cell? ⟨w.heap.size, 0, none⟩ = some v
  c3 : W.cell? ⟨w.heap.size + 1, 0, none⟩ = some u
  c4 : W.cell? ⟨w.heap.size + 1 + 1, 0, none⟩ = some (.bool false)
  f4 : W.frozen? ⟨w.heap.size + 1 + 1, 0, none⟩ = false
  bl : Below w.heap.size w W
  sz : w.heap.size + 3 ≤ W.heap.size
theorem E4.keep {w W W' : World} {v u : Value} (h : E4 w v u W) (hb : Below W.heap.size W W') : E4 w v u W' where
  c2 := (World.cell?_of_block (hb.block _ (by have := h.sz; dsimp only; omega))).trans h.c2
  c3 := (World.cell?_of_block (hb.block _ (by have := h.sz; dsimp only; omega))).trans h.c3
  c4 := (World.cell?_of_block (hb.block _ (by have := h.sz; dsimp only; omega))).trans h.c4
  f4 := (World.frozen?_of_block (hb.block _ (by have := h.sz; dsimp only; omega))).trans h.f4
  bl := h.bl.trans (hb.mono h.bl.size)
  sz := Nat.le_trans h.sz hb.size
theorem e4_new (w : World) (v u : Value) : E4 w v u (((w.alloc (.cells #[v] 22)).alloc (.cells #[u] 3)).alloc (.cells #[.bool false] 4)) := by
  have b3 := Boxed.new (w.alloc (.cells #[v] 22)) 3 u
  have b4 := Boxed.new ((w.alloc (.cells #[v] 22)).alloc (.cells #[u] 3)) 4 (.bool false)
  simp only [World.size_alloc] at b3 b4
  exact ⟨(((Boxed.new w 22 v).alloc _).alloc _).cell, (b3.alloc _).cell, b4.cell, b4.frozen, ((below_alloc w _).alloc (by simp) _).alloc (by simp; omega) _, by simp⟩
/-- What Nearest returned, as values. -/
def NearV (p : Id → Bool) (xs : List Id) (x : Id) (m : Int) (ok : Bool) : Prop :=
  (∃ k, k < xs.length ∧ p (xs.getD k zI) = true ∧ (∀ j, k < j → j < xs.length → p (xs.getD j zI) = false) ∧ x = xs.getD k zI ∧ m = (xs.length : Int) - 1 - k ∧ ok = true) ∨
  ((∀ j, j < xs.length → p (xs.getD j zI) = false) ∧ x = zI ∧ m = (xs.length : Int) ∧ ok = false)
theorem near_vals {p : Id → Bool} {xs : List Id} {e : Ending} (h : NearP p xs e) : ∃ x m ok, e = .returned (.tuple #[vI x, .int .i64 m, .bool ok]) ∧ NearV p xs x m ok := by
  rcases h with ⟨k, h1, h2, h3, rfl⟩ | ⟨h, rfl⟩
  · exact ⟨_, _, _, rfl, .inl ⟨k, h1, h2, h3, rfl, rfl, rfl⟩⟩
  · exact ⟨_, _, _, rfl, .inr ⟨h, rfl, rfl, rfl⟩⟩
/-- What Nearest returned is what the law's own search found. -/
theorem near_same {p : Id → Bool} {xs : List Id} {x : Id} {m : Int} {ok : Bool} (h : NearV p xs x m ok) {d : Nat} (hd : d < xs.length) (hp : p (xs.getD d zI) = true) (hl : ∀ j, d < j → j < xs.length → p (xs.getD j zI) = false) :
    x = xs.getD d zI ∧ m = (xs.length : Int) - 1 - d ∧ ok = true := by
  rcases h with ⟨k, h1, h2, h3, h4⟩ | ⟨h, _⟩
  · have : k = d := by
      rcases Nat.lt_trichotomy k d with hh | hh | hh
      · have := h3 d hh hd; rw [hp] at this; cases this
      · exact hh
      · have := hl k hh h1; rw [h2] at this; cases this
    subst this
    exact h4
  · have := h d hd; rw [hp] at this; cases this
theorem near_none {p : Id → Bool} {xs : List Id} {x : Id} {m : Int} {ok : Bool} (h : NearV p xs x m ok) (hl : ∀ j, j < xs.length → p (xs.getD j zI) = false) : x = zI ∧ m = (xs.length : Int) ∧ ok = false := by
  rcases h with ⟨k, h1, h2, h3, h4⟩ | ⟨_, h⟩
  · have := hl k h1; rw [h2] at this; cases this
  · exact h
theorem E4.of {w W W' : World} {v u : Value} (h : E4 w v u W) (hs : W.heap.size ≤ W'.heap.size) (hb : ∀ k, w.heap.size ≤ k → k < w.heap.size + 3 → W'.heap[k]? = W.heap[k]?) (bl : Below w.heap.size w W') : E4 w v u W' where
  c2 := (World.cell?_of_block (hb _ (by dsimp only; omega) (by dsimp only; omega))).trans h.c2
  c3 := (World.cell?_of_block (hb _ (by dsimp only; omega) (by dsimp only; omega))).trans h.c3
  c4 := (World.cell?_of_block (hb _ (by dsimp only; omega) (by dsimp only; omega))).trans h.c4
  f4 := (World.frozen?_of_block (hb _ (by dsimp only; omega) (by dsimp only; omega))).trans h.f4
  bl := bl
  sz := Nat.le_trans h.sz hs
/-- The law's boxes behind its own search. -/
structure M4 (w : World) (A : Option Addr) (c : Nat) (stop : Int) (xs : List Id) (b5 b6 : Nat) (A2 : Option Addr) (d2 : Nat) (x : Id) (W : World) : Prop where
  e : E4 w (.slice A xs.length c) (.int .i64 stop) W
  c5 : W.cell? ⟨b5, 0, none⟩ = some (.slice A2 xs.length d2)
  a6 : At W ⟨b6, 0, none⟩ (cI x)
  sl : SlR W (w.heap.size + 3) b5 A2 xs
  o1 : w.heap.size + 3 ≤ b5
  o2 : b5 < b6
  o3 : b6 < W.heap.size
theorem M4.of {w : World} {A : Option Addr} {c : Nat} {stop : Int} {xs : List Id} {b5 b6 : Nat} {A2 : Option Addr} {d2 : Nat} {x : Id} {W W' : World} (h : M4 w A c stop xs b5 b6 A2 d2 x W) (hs : W.heap.size ≤ W'.heap.size)
    (hb : ∀ k, w.heap.size ≤ k → k ≤ b6 → W'.heap[k]? = W.heap[k]?) (bl : Below w.heap.size w W') : M4 w A c stop xs b5 b6 A2 d2 x W' where
  e := h.e.of hs (fun k h1 h2 => hb k h1 (by have := h.o1; have := h.o2; omega)) bl
  c5 := (World.cell?_of_block (hb _ (by have := h.o1; dsimp only; omega) (by have := h.o2; dsimp only; omega))).trans h.c5
  a6 := h.a6.same hs (hb _ (by have := h.o1; have := h.o2; dsimp only; omega) (by dsimp only; omega))
  sl := h.sl.keep ⟨hs, fun k h1 h2 => hb k (by omega) (by have := h.o2; omega)⟩
  o1 := h.o1
  o2 := h.o2
  o3 := Nat.lt_of_lt_of_le h.o3 hs
theorem M4.keep {w : World} {A : Option Addr} {c : Nat} {stop : Int} {xs : List Id} {b5 b6 : Nat} {A2 : Option Addr} {d2 : Nat} {x : Id} {W W' : World} (h : M4 w A c stop xs b5 b6 A2 d2 x W) (hb : Below W.heap.size W W') : M4 w A c stop xs b5 b6 A2 d2 x W' :=
  h.of hb.size (fun k _ h2 => hb.block k (by have := h.o3; omega)) (h.e.bl.trans (hb.mono h.e.bl.size))
/-- .. and the counter of the range. -/
structure G4 (w : World) (A : Option Addr) (c : Nat) (stop : Int) (xs : List Id) (b5 b6 b10 : Nat) (A2 : Option Addr) (d2 : Nat) (x : Id) (n : Nat) (W : World) : Prop where
  m : M4 w A c stop xs b5 b6 A2 d2 x W
  c10 : W.cell? ⟨b10, 0, none⟩ = some (.int .i64 (n : Int))
  f10 : W.frozen? ⟨b10, 0, none⟩ = false
  o4 : b6 < b10
  o5 : b10 < W.heap.size
theorem G4.of {w : World} {A : Option Addr} {c : Nat} {stop : Int} {xs : List Id} {b5 b6 b10 : Nat} {A2 : Option Addr} {d2 : Nat} {x : Id} {n : Nat} {W W' : World} (h : G4 w A c stop xs b5 b6 b10 A2 d2 x n W) (hs : W.heap.size ≤ W'.heap.size)
    (hb : ∀ k, w.heap.size ≤ k → k ≤ b10 → W'.heap[k]? = W.heap[k]?) (bl : Below w.heap.size w W') : G4 w A c stop xs b5 b6 b10 A2 d2 x n W' where
  m := h.m.of hs (fun k h1 h2 => hb k h1 (by have := h.o4; omega)) bl
  c10 := (World.cell?_of_block (hb _ (by have := h.m.o1; have := h.m.o2; have := h.o4; dsimp only; omega) (by dsimp only; omega))).trans h.c10
  f10 := (World.frozen?_of_block (hb _ (by have := h.m.o1; have := h.m.o2; have := h.o4; dsimp only; omega) (by dsimp only; omega))).trans h.f10
  o4 := h.o4
  o5 := Nat.lt_of_lt_of_le h.o5 hs
theorem G4.keep {w : World} {A : Option Addr} {c : Nat} {stop : Int} {xs : List Id} {b5 b6 b10 : Nat} {A2 : Option Addr} {d2 : Nat} {x : Id} {n : Nat} {W W' : World} (h : G4 w A c stop xs b5 b6 b10 A2 d2 x n W) (hb : Below W.heap.size W W') : G4 w A c stop xs b5 b6 b10 A2 d2 x n W' :=
  h.of hb.size (fun k _ h2 => hb.block k (by have := h.o5; omega)) (h.m.e.bl.trans (hb.mono h.m.e.bl.size))
theorem G4.own {w : World} {A : Option Addr} {c : Nat} {stop : Int} {xs : List Id} {b5 b6 b10 : Nat} {A2 : Option Addr} {d2 : Nat} {x : Id} {n : Nat} {W W' : World} (h : G4 w A c stop xs b5 b6 b10 A2 d2 x n W) {B : Nat} (hB : b10 < B) {row : Option Nat} (hg : W.grownBy W' row) (hr : ∀ r, row = some r → B ≤ r) : G4 w A c stop xs b5 b6 b10 A2 d2 x n W' :=
  h.of hg.size (fun k _ h2 => hg.block k (by have := h.o5; omega) (fun e => by have := hr k e.symm; omega)) (h.m.e.bl.grown hg (h.m.e.bl.size) (fun k e => by have := hr k e; have := h.o4; have := h.m.o1; have := h.m.o2; omega))
theorem G4.set {w : World} {A : Option Addr} {c : Nat} {stop : Int} {xs : List Id} {b5 b6 b10 : Nat} {A2 : Option Addr} {d2 : Nat} {x : Id} {n : Nat} {W : World} (h : G4 w A c stop xs b5 b6 b10 A2 d2 x n W) (n' : Nat) : G4 w A c stop xs b5 b6 b10 A2 d2 x n' (W.setCell ⟨b10, 0, none⟩ (.int .i64 (n' : Int))) where
  m := h.m.of (by simp [World.setCell]) (fun k h1 h2 => Below.heap_setCell W _ _ k (by have := h.o4; dsimp only; omega)) (h.m.e.bl.setCell (p := ⟨b10, 0, none⟩) (by have := h.o4; have := h.m.o1; have := h.m.o2; dsimp only; omega) _)
  c10 := World.cell?_setCell_same' _ _ _ (by rw [h.c10]; rfl)
  f10 := by rw [World.frozen?_setCell]; exact h.f10
  o4 := h.o4
  o5 := by have := h.o5; simpa [World.setCell] using this
theorem SlR.lo {w : World} {lo lo' m : Nat} {A : Option Addr} {xs : List Id} (h : SlR w lo m A xs) (hl : lo' ≤ lo) : SlR w lo' m A xs := fun hx => let ⟨ad, e, h1, h2⟩ := h hx; ⟨ad, e, Nat.le_trans hl h1, h2⟩
theorem byte31 {W : World} {ad : Addr} {x : Id} (h : At W ad (cI x)) : ∃ z : Int, 0 ≤ z ∧ z ≤ 255 ∧ W.cell? ⟨ad.block, ad.off + 31, none⟩ = some (.int .u8 z) ∧ (acc x = true → z % 2 = 1) ∧ (acc x = false → z % 2 = 0) := by
  have hl : 31 < x.1.length := by rw [x.2]; decide
  have hg : x.1.getD 31 0 = x.1[31] := by rw [List.getD_eq_getElem?_getD, List.getElem?_eq_getElem hl]; rfl
  have h1 := h.2 31 (.int .u8 (x.1[31].toNat : Int)) (by simp [cI, List.getElem?_map, List.getElem?_eq_getElem hl, cB])
  have h2 : x.1[31].toNat < 256 := UInt8.toNat_lt _
  refine ⟨(x.1[31].toNat : Int), by omega, by omega, h1, fun h => ?_, fun h => ?_⟩
  · unfold acc at h
    rw [hg] at h
    exact eq_of_beq h
  · unfold acc at h
    rw [hg] at h
    have := beq_eq_false_iff_ne.1 h
    omega
/-- What the law's own search finds. -/
def PD (xs : List Id) (d : Int) : Prop :=
  (∃ k : Nat, d = k ∧ k < xs.length ∧ acc (xs.getD k zI) = true ∧ ∀ j, k < j → j < xs.length → acc (xs.getD j zI) = false) ∨ (d = -1 ∧ ∀ j, j < xs.length → acc (xs.getD j zI) = false)
theorem items_step {xs : List Id} {pre : List (Nat × Id)} {i : Nat} {y : Id} (hp : pre = items xs pre.length) (hi : i = xs.length - 1 - pre.length) (hy : y = xs.getD i zI) : pre ++ [(i, y)] = items xs (pre ++ [(i, y)]).length := by
  rw [List.length_append, List.length_singleton, items_succ, ← hp, ← hi, ← hy]
theorem items_no {xs : List Id} {pre : List (Nat × Id)} {i : Nat} {y : Id} (hne : ¬ (i = xs.length - 1 - pre.length ∧ y = xs.getD i zI)) : ¬ ∃ k, k ≤ xs.length ∧ pre ++ [(i, y)] = items xs k := by
  rintro ⟨k, hk, he⟩
  have h1 := congrArg List.length he
  rw [items_length, List.length_append, List.length_singleton] at h1
  subst h1
  rw [items_succ] at he
  obtain ⟨h2, h3⟩ := List.append_inj' he rfl
  simp only [List.cons.injEq, Prod.mk.injEq, and_true] at h3
  exact hne ⟨h3.1, h3.2.trans (by rw [h3.1])⟩
set_option maxRecDepth 100000 in
set_option maxHeartbeats 1600000 in
theorem law4_long (A : Option Addr) (c : Nat) (stop : Int) (xs : List Id) (w : World) (h1 : (60 : Int) < (xs.length : Int)) :
    Calls Try.prog 4 #[.slice A xs.length c, .int .i64 stop] w fun e w' => e = .returned (.bool true) ∧ Below w.heap.size w w' := by
  have HE := Lib.hid (e4_new w (.slice A xs.length c) (.int .i64 stop))
  go_enter Try.func4, Try.ntmps4
  go_wp2_with (first
    | (go_at_call 12; refine (known12 _).mono ?_; rintro e W1 ⟨rfl, hb1⟩; have H1 := Lib.hid (HE.out.keep hb1); have c2 := H1.out.c2; clear HE hb1)
    | (go_at_call 12; refine (known12 _).mono ?_; rintro e W2 ⟨rfl, hb2⟩; have H2 := Lib.hid (H1.out.keep hb2); have c4 := H2.out.c4; have f4 := H2.out.f4; clear H1 hb2 c2))
  have k4 : (W2.setCell ⟨w.heap.size + 1 + 1, 0, none⟩ (.bool true)).cell? ⟨w.heap.size + 1 + 1, 0, none⟩ = some (.bool true) := World.cell?_setCell_same' _ _ _ (by rw [c4]; rfl)
  exact bodyPost_ret (v := .bool true) (results_c1 (ad := ⟨w.heap.size + 1 + 1, 0, none⟩) rfl rfl (by simp [go_sem, k4])) rfl ⟨rfl, H2.out.bl.setCell (p := ⟨w.heap.size + 1 + 1, 0, none⟩) (by dsimp only; omega) _⟩
set_option maxRecDepth 100000 in
set_option maxHeartbeats 4000000 in
theorem law4_main (A : Option Addr) (c : Nat) (stop : Int) (xs : List Id) (w : World) (hx : Sl w cI A xs) (hc : xs.length ≤ c) (hl : xs.length ≤ 60) :
    Calls Try.prog 4 #[.slice A xs.length c, .int .i64 stop] w fun e w' => e = .returned (.bool true) ∧ Below w.heap.size w w' := by
  have h1 : ¬ (60 : Int) < (xs.length : Int) := by omega
  have HE := Lib.hid (e4_new w (.slice A xs.length c) (.int .i64 stop))
  have HX := Lib.hid (And.intro hx (And.intro hc hl))
  clear hx hc hl
  refine (callsIn_wide (n := 6)).1 (callsIn_of_wp_marks Try.func4 rfl trivial ?_ rfl)
  simp only [Try.ntmps4, List.size_toArray, List.length_cons, List.length_nil, Nat.reduceAdd, Nat.reduceSub, Array.replicate_succ, Array.replicate_zero, List.push_toArray, List.append_toArray, List.nil_append, List.cons_append]
  refine wpIn_wide.2 ?_
  go_upto_block 0 with (first
    | (go_at_call 12; refine (known12 _).mono ?_; rintro e W1 ⟨rfl, hb1⟩; have H1 := Lib.hid (HE.out.keep hb1); have c2 := H1.out.c2; clear HE hb1)
    | (go_at_call 14; refine (own_any _ _ _ _ (HX.out.1.keep (H1.out.bl)) (by have := HX.out.2.2; omega)).mono ?_; rintro e W2 ⟨v, rfl, hb2, ho⟩; obtain ⟨A2, d2, rfl, hc2, hs2⟩ := Own.slR ho; have H2 := Lib.hid (And.intro (H1.out.keep hb2) (And.intro H1.out.sz (And.intro hc2 hs2))); have c2' := H2.out.1.c2; clear H1 hb2 ho hc2 hs2 c2)
    | (go_at_call 17; refine (near17 _ _ (.inl ⟨rfl, rfl⟩) _ _ _ xs _ rfl H2.out.2.2.1 (H2.out.2.2.2.sl.keep (below_alloc _ _)) (by have := HX.out.2.2; omega)).mono ?_; rintro e W3 ⟨hN, hb3⟩; obtain ⟨x, m, ok, rfl, hV⟩ := near_vals hN; have H3 := Lib.hid (And.intro ((H2.out.1.keep (below_alloc _ _)).keep hb3) hV); have c2'' : ∀ o, (W3.alloc o).cell? ⟨w.heap.size, 0, none⟩ = some (.slice A xs.length c) := fun o => (H3.out.1.keep (below_alloc _ o)).c2; have HB3 := Lib.hid hb3; clear hb3 hN hV c2'))
  have hM : M4 w A c stop xs W2.heap.size W3.heap.size A2 d2 x (W3.alloc (.cells (aI x) 33)) := {
    e := H3.out.1.keep (below_alloc _ _)
    c5 := ((((Boxed.new W2 24 (.slice A2 xs.length d2)).kept (row := none) ⟨HB3.out.os, HB3.out.tape, HB3.out.output, HB3.out.size, fun k hk _ => HB3.out.block k hk⟩ (by simp)).alloc _)).cell
    a6 := at_new W3 (cI x) _ _ rfl
    sl := SlR.lo (H2.out.2.2.2.keep (KpR.below ((((below_alloc W2 _).trans (HB3.out.mono (by simp))).alloc (Nat.le_trans (by simp) HB3.out.size) _)))) H2.out.2.1
    o1 := H2.out.1.sz
    o2 := by have := HB3.out.size; simp at this; omega
    o3 := by simp }
  clear c2''
  generalize W3.alloc (.cells (aI x) 33) = W4 at hM ⊢
  obtain ⟨b5, hb5⟩ : ∃ b5, W2.heap.size = b5 := ⟨_, rfl⟩
  obtain ⟨b6, hb6⟩ : ∃ b6, W3.heap.size = b6 := ⟨_, rfl⟩
  rw [hb5, hb6] at hM ⊢
  have hV := H3.out.2
  have HD := Lib.hid H2.out.2.2.1
  clear hb5 hb6 H2 H3 HB3
  have HM := Lib.hid (And.intro hM hV)
  have hlen := HX.out.2.2
  clear hM hV
  go_cut [9] from 37 to 49 (fun v w' => ∃ d : Int, v = .int .i64 d ∧ PD xs d ∧ w' = W4)
  case first =>
    go_wp2_with (fail)
    go_loop [9] (fun i => ∃ d : Int, i = .int .i64 d ∧ -1 ≤ d ∧ d < xs.length ∧ ∀ j : Nat, d < j → j < xs.length → acc (xs.getD j zI) = false) (fun i => (intOf i + 1).toNat)
    case atStart => exact ⟨_, rfl, by omega, by omega, fun j h1 h2 => by omega⟩
    case round =>
      obtain ⟨d, rfl, hd1, hd2, hno⟩ := hrel
      have c2 := HM.out.1.e.c2
      have HN := Lib.hid hno
      clear hno
      by_cases hd0 : 0 ≤ d
      · obtain ⟨k, rfl⟩ : ∃ k : Nat, d = (k : Int) := ⟨d.toNat, by omega⟩
        have hk : k < xs.length := by omega
        obtain ⟨ad, rfl, hat⟩ := Sl.at_ cI_length (HX.out.1.keep HM.out.1.e.bl) hk
        obtain ⟨z, hz0, hz1, hby, hzt, hzf⟩ := byte31 hat
        have hg : xs.getD k zI = xs[k] := by rw [List.getD_eq_getElem?_getD, List.getElem?_eq_getElem hk]; rfl
        have HK := Lib.hid (And.intro hg (And.intro hk hat))
        clear hat hg
        cases hac : acc xs[k] with
        | true =>
          have hz := hzt hac
          have HA := Lib.hid hac
          clear hac hzt hzf
          go_wp2_with (fail)
          go_meet
          case rel => exact ⟨_, rfl, .inl ⟨k, rfl, hk, by rw [HK.out.1]; exact HA.out, fun j h1 h2 => HN.out j (by omega) h2⟩, rfl⟩
        | false =>
          have hz := hzf hac
          have HA := Lib.hid hac
          clear hac hzt hzf
          go_wp2_with (fail)
          go_round
          case rel =>
            refine ⟨_, rfl, by omega, by omega, fun j h1 h2 => ?_⟩
            by_cases hjk : j = k
            · subst hjk; rw [HK.out.1]; exact HA.out
            · exact HN.out j (by omega) h2
          case measure => simp [intOf]
      · have hdm : d = -1 := by omega
        subst hdm
        go_wp2_with (fail)
        go_meet
        case rel => exact ⟨_, rfl, .inr ⟨rfl, fun j h2 => HN.out j (by omega) h2⟩, rfl⟩
  case rest =>
    obtain ⟨d, rfl, hPD, rfl⟩ := hcut
    go_upto_region 8 with (fail)
    go_cut [72] from 50 to 72 (fun v w' => v = .bool false ∧ Below wc.heap.size wc w')
    case first =>
      have c2 := HM.out.1.e.c2
      have c5 := HM.out.1.c5
      have k6 := HM.out.1.a6.ok
      have r6 := HM.out.1.a6.rd
      rw [cI_length] at k6 r6
      rcases hPD with ⟨k, rfl, hk, hac, hno⟩ | ⟨rfl, hno⟩
      · obtain ⟨rfl, rfl, rfl⟩ := near_same HM.out.2 hk hac hno
        have hg : xs.getD k zI = xs[k] := by rw [List.getD_eq_getElem?_getD, List.getElem?_eq_getElem hk]; rfl
        rw [hg] at r6
        obtain ⟨ad2, rfl, q1, q2⟩ := Sl.rd HM.out.1.sl.sl hk
        have h0k : (0 : Int) ≤ (k : Int) := by omega
        have HK := Lib.hid (And.intro hg (And.intro hac hno))
        clear hg hac hno
        go_quiet (fail)
        go_wp2_with (fail)
        go_meet
        case rel => exact ⟨rfl, below_drewN _ _⟩
      · go_quiet (fail)
        go_wp2_with (fail)
        go_meet
        case rel => exact ⟨rfl, below_drewN _ _⟩
    case rest =>
      rename World => wd
      obtain ⟨rfl, hbd⟩ := hcut
      have HM2 := Lib.hid (And.intro (HM.out.1.keep hbd) HM.out.2)
      clear HM hbd
      go_upto_region 10 with (fail)
      go_cut [88] from 73 to 88 (fun v w' => v = .bool false ∧ w' = wd)
      case first =>
        have c2 := HM2.out.1.e.c2
        have k6 := HM2.out.1.a6.ok
        have r6 := HM2.out.1.a6.rd
        rw [cI_length] at k6 r6
        rcases hPD with ⟨k, rfl, hk, hac, hno⟩ | ⟨rfl, hno⟩
        · have h0k : (0 : Int) ≤ (k : Int) := by omega
          have HK := Lib.hid (And.intro hac hno)
          clear hac hno
          go_wp2_with (fail)
          go_meet
          case rel => exact ⟨rfl, rfl⟩
        · obtain ⟨rfl, rfl, rfl⟩ := near_none HM2.out.2 hno
          have HK := Lib.hid hno
          clear hno
          go_wp2_with (fail)
          go_meet
          case rel => exact ⟨rfl, rfl⟩
      case rest =>
        obtain ⟨rfl, rfl⟩ := hcut
        have c5 : ∀ o, (wc.alloc o).cell? ⟨b5, 0, none⟩ = some (.slice A2 xs.length d2) := fun o => (HM2.out.1.keep (below_alloc _ o)).c5
        go_wp2_with (go_at_call 19; refine (anc19 _ _ _ xs _ rfl (HM2.out.1.sl.sl.keep (below_alloc _ _)) (by omega)).mono ?_; rintro e W6 ⟨b, A3, d3, rfl, hb1, hb2, hb3, hb4, hb5, hb6⟩; have H6 := Lib.hid (And.intro hb1 (And.intro hb2 (And.intro hb3 (And.intro hb4 (And.intro hb5 hb6))))); clear hb1 hb2 hb3 hb4 hb5 hb6 c5)
        have hG6 : G4 w A c stop xs b5 b6 wc.heap.size A2 d2 x 0 W6 := {
          m := (HM2.out.1.keep (below_alloc _ _)).keep H6.out.1
          c10 := ((Boxed.new wc 3 (.int .i64 0)).kept (row := none) ⟨H6.out.1.os, H6.out.1.tape, H6.out.1.output, H6.out.1.size, fun k hk _ => H6.out.1.block k hk⟩ (by simp)).cell
          f10 := ((Boxed.new wc 3 (.int .i64 0)).kept (row := none) ⟨H6.out.1.os, H6.out.1.tape, H6.out.1.output, H6.out.1.size, fun k hk _ => H6.out.1.block k hk⟩ (by simp)).frozen
          o4 := HM2.out.1.o3
          o5 := by have := H6.out.1.size; simp at this; omega }
        refine (wpIn_wide (n := 6)).1 ?_
        generalize hQ0 : Exit.inBlock 2 _ = Q0
        have hrest : ∀ (D : Nat) (W : World) (n : Nat), W6.heap.size ≤ D → G4 w A c stop xs b5 b6 wc.heap.size A2 d2 x n W → (n = xs.length ∨ (n : Int) = stop) → W.heap[D]? = some (.deferred (some [])) →
            Q0 .normal { tmps := #[.slice A xs.length c, .int .i64 stop, .pointer (some ⟨w.heap.size, 0, none⟩), .pointer (some ⟨w.heap.size + 1, 0, none⟩), .pointer (some ⟨w.heap.size + 1 + 1, 0, none⟩), .pointer (some ⟨b5, 0, none⟩), .pointer (some ⟨b6, 0, none⟩), .int .i64 m, .bool ok, .int .i64 d, .pointer (some ⟨wc.heap.size, 0, none⟩), undef, undef, undef, undef, undef, undef, undef, .bool true, .bool false, .bool false, .slice A xs.length c, .int .i64 xs.length, .bool (decide ((60 : Int) < xs.length)), .bool (decide ((60 : Int) < xs.length)), undef, .slice A xs.length c, .slice A2 xs.length d2, .tuple #[vI x, .int .i64 m, .bool ok], .slice A2 xs.length d2, .tuple #[vI x, .int .i64 m, .bool ok], vI x, .int .i64 m, .bool ok, .slice A xs.length c, .int .i64 xs.length, .int .i64 ((xs.length : Int) - 1), u37, u38, u39, u40, u41, u42, u43, u44, u45, u46, u47, u48, u49, u50, u51, u52, u53, u54, u55, u56, u57, u58, u59, u60, u61, u62, u63, u64, u65, u66, u67, u68, u69, u70, u71, .bool false, u73, u74, u75, u76, u77, u78, u79, u80, u81, u82, u83, u84, u85, u86, u87, .bool false, .slice A2 xs.length d2, .func (.func 35) #[] #[.pointer (some ⟨b, 0, none⟩)], undef, undef, undef, undef, undef, undef, undef, undef, undef, undef, undef, undef, undef, undef, undef, undef, undef, undef, undef, undef, undef, undef, undef, undef, undef, undef, undef, undef, undef, undef, undef, undef, undef, undef, undef, undef, undef, undef, undef, undef, undef, undef, undef, undef, undef, undef, undef, undef, undef, undef, undef, undef, undef, undef, undef, undef, undef, undef, undef, undef, undef, undef, undef, undef, undef, undef, undef, undef, undef, undef, undef, undef, undef], defers := [{ target := .collected D, args := #[] }] } W ∧ Q0 (.exit 2) { tmps := #[.slice A xs.length c, .int .i64 stop, .pointer (some ⟨w.heap.size, 0, none⟩), .pointer (some ⟨w.heap.size + 1, 0, none⟩), .pointer (some ⟨w.heap.size + 1 + 1, 0, none⟩), .pointer (some ⟨b5, 0, none⟩), .pointer (some ⟨b6, 0, none⟩), .int .i64 m, .bool ok, .int .i64 d, .pointer (some ⟨wc.heap.size, 0, none⟩), undef, undef, undef, undef, undef, undef, undef, .bool true, .bool false, .bool false, .slice A xs.length c, .int .i64 xs.length, .bool (decide ((60 : Int) < xs.length)), .bool (decide ((60 : Int) < xs.length)), undef, .slice A xs.length c, .slice A2 xs.length d2, .tuple #[vI x, .int .i64 m, .bool ok], .slice A2 xs.length d2, .tuple #[vI x, .int .i64 m, .bool ok], vI x, .int .i64 m, .bool ok, .slice A xs.length c, .int .i64 xs.length, .int .i64 ((xs.length : Int) - 1), u37, u38, u39, u40, u41, u42, u43, u44, u45, u46, u47, u48, u49, u50, u51, u52, u53, u54, u55, u56, u57, u58, u59, u60, u61, u62, u63, u64, u65, u66, u67, u68, u69, u70, u71, .bool false, u73, u74, u75, u76, u77, u78, u79, u80, u81, u82, u83, u84, u85, u86, u87, .bool false, .slice A2 xs.length d2, .func (.func 35) #[] #[.pointer (some ⟨b, 0, none⟩)], undef, undef, undef, undef, undef, undef, undef, undef, undef, undef, undef, undef, undef, undef, undef, undef, undef, undef, undef, undef, undef, undef, undef, undef, undef, undef, undef, undef, undef, undef, undef, undef, undef, undef, undef, undef, undef, undef, undef, undef, undef, undef, undef, undef, undef, undef, undef, undef, undef, undef, undef, undef, undef, undef, undef, undef, undef, undef, undef, undef, undef, undef, undef, undef, undef, undef, undef, undef, undef, undef, undef, undef, undef], defers := [{ target := .collected D, args := #[] }] } W := by
          subst hQ0
          intro D W n hD hG hn hK
          refine (fun h => ⟨h, by simpa [Exit.inBlock] using h⟩) ?_
          have hwb : w.heap.size ≤ W6.heap.size := hG6.m.e.bl.size
          have c5 := hG.m.c5
          have HG := Lib.hid (And.intro hG (And.intro hn hK))
          clear hG hn hK hG6
          obtain ⟨y0, hy0⟩ : ∃ y0, xs.getD (xs.length - 1) zI = y0 := ⟨_, rfl⟩
          obtain ⟨p0, hp0⟩ : ∃ p0, decide (0 < xs.length) = p0 := ⟨_, rfl⟩
          have HY := Lib.hid (And.intro hy0 hp0)
          clear hy0 hp0
          go_wp2_with (first
            | (go_at_call 20; refine (parent20 _ _ _ xs _ rfl HD.out (HG.out.1.m.sl.sl) (by omega)).mono ?_; rintro e W7 ⟨rfl, hb7⟩; rw [HY.out.1, HY.out.2]; have H7 := Lib.hid (And.intro (HG.out.1.keep hb7) ((hb7.block D (Array.getElem?_eq_some_iff.1 HG.out.2.2).1).trans HG.out.2.2)); have c5' : ∀ o, (W7.alloc o).cell? ⟨b5, 0, none⟩ = some (.slice A2 xs.length d2) := fun o => (H7.out.1.keep (below_alloc _ o)).m.c5; clear hb7 c5)
            | (go_at_call 17; refine (near17_nil _ _ _ xs _ rfl).mono ?_; rintro e W8 ⟨rfl, hb8⟩; have H8 := Lib.hid hb8; clear hb8 c5'))
          have hat13 : At (W8.alloc (.cells (aI zI) 33)) ⟨W7.heap.size, 0, none⟩ (cI y0) := ((at_new W7 (cI y0) 33 _ rfl).keep H8.out).keep (below_alloc _ _)
          have hG9 : G4 w A c stop xs b5 b6 wc.heap.size A2 d2 x n (W8.alloc (.cells (aI zI) 33)) := ((H7.out.1.keep (below_alloc W7 _)).keep H8.out).keep (below_alloc _ _)
          have hK9 : (W8.alloc (.cells (aI zI) 33)).heap[D]? = some (.deferred (some [])) := by
            have h1 : (W7.alloc (.cells (aI y0) 33)).heap[D]? = some (.deferred (some [])) := ((below_alloc W7 _).block D (Array.getElem?_eq_some_iff.1 H7.out.2).1).trans H7.out.2
            have h2 := (H8.out.block D (Array.getElem?_eq_some_iff.1 h1).1).trans h1
            exact ((below_alloc W8 _).block D (Array.getElem?_eq_some_iff.1 h2).1).trans h2
          clear H8 H7
          generalize W8.alloc (.cells (aI zI) 33) = W9 at hat13 hG9 hK9 ⊢
          generalize W7.heap.size = b13 at hat13 ⊢
          obtain ⟨hy0, hp0⟩ := HY.out
          have hn := HG.out.2.1
          clear HY HG
          refine (wpIn_wide (n := 6)).1 ?_
          cases p0 with
          | true =>
            have hpos : 0 < xs.length := of_decide_eq_true hp0
            obtain ⟨k, hkk⟩ : ∃ k, xs.length = k + 1 := ⟨xs.length - 1, by omega⟩
            have hkl : k < xs.length := by omega
            have hk1 : (xs.length : Int) - 1 = (k : Int) := by omega
            obtain rfl : xs[k] = y0 := by rw [← hy0, show xs.length - 1 = k by omega, List.getD_eq_getElem?_getD, List.getElem?_eq_getElem hkl]; rfl
            obtain ⟨ad2, rfl, _, _⟩ := Sl.rd hG9.m.sl.sl hkl
            have hgt : decide ((0 : Int) < (xs.length : Int)) = true := decide_eq_true (by omega)
            have h0p : (0 : Int) < (xs.length : Int) := by omega
            have hgt2 : decide (0 < xs.length) = true := decide_eq_true (by omega)
            have HW := Lib.hid (And.intro hG9 (And.intro hat13 hK9))
            have HKK := Lib.hid hkk
            clear hG9 hat13 hK9 hy0 hp0 hkk
            by_cases hnl : n = xs.length
            · subst hnl
              clear hn
              refine AnyO.wpIn_any_tailP (.inl rfl) 40 (by kernel_rfl) (by kernel_rfl) (by kernel_rfl) (by kernel_rfl) (by kernel_rfl) (by kernel_rfl) (fun u => G4 w A c stop xs b5 b6 wc.heap.size (some ad2) d2 x xs.length u ∧ At u ⟨b13, 0, none⟩ (cI xs[k]) ∧ Below W9.heap.size W9 u) (pstP [isV (.int .i64 (xs.length : Int)), isV (.slice A xs.length c), isV (.int .i64 xs.length), isV (.bool true), isV (.bool true), isV (undef), isV (undef), isV (undef), isV (.bool true), isV (.bool true), isV (.bool true), isV (.slice A xs.length c), isV (.int .i64 xs.length), isV (.bool true), isV (.bool true), isV (.bool true), isV (.bool true), isV (.bool true), isV (.bool false), isV (.bool false), isV (vI xs[k]), isV (.slice (some ad2) xs.length d2), isV (.slice A xs.length c), isV (.int .i64 xs.length), isV (.int .i64 (k : Int)), isV (.pointer (some (ad2.add (k * 32)))), isV (vI xs[k]), isV (.bool true), isV (.bool true), isV (.bool true), isV (.bool true), isV (.int .i64 xs.length), isV (.slice A xs.length c), isV (.int .i64 xs.length), isV (.bool true), isV (.bool true), isV (.bool true), isV (.bool false), isV (.bool true), isV (.bool true)]) (⟨HW.out.1.keep (below_drew _), HW.out.2.1.keep (below_drew _), below_drew _⟩) ?_ ?_
              · intro i hi
                have hi2 : i = 0 ∨ i = 1 ∨ i = 2 ∨ i = 3 ∨ i = 4 ∨ i = 5 ∨ i = 6 ∨ i = 7 ∨ i = 8 ∨ i = 9 ∨ i = 10 ∨ i = 11 ∨ i = 12 ∨ i = 13 ∨ i = 14 ∨ i = 15 ∨ i = 16 ∨ i = 17 ∨ i = 18 ∨ i = 19 ∨ i = 20 ∨ i = 21 ∨ i = 22 ∨ i = 23 ∨ i = 24 ∨ i = 25 ∨ i = 26 ∨ i = 27 ∨ i = 28 ∨ i = 29 ∨ i = 30 ∨ i = 31 ∨ i = 32 ∨ i = 33 ∨ i = 34 ∨ i = 35 ∨ i = 36 ∨ i = 37 ∨ i = 38 ∨ i = 39 := by omega
                clear hi
                rcases hi2 with rfl | rfl | rfl | rfl | rfl | rfl | rfl | rfl | rfl | rfl | rfl | rfl | rfl | rfl | rfl | rfl | rfl | rfl | rfl | rfl | rfl | rfl | rfl | rfl | rfl | rfl | rfl | rfl | rfl | rfl | rfl | rfl | rfl | rfl | rfl | rfl | rfl | rfl | rfl | rfl
                · -- 0: Op.load 3 (Operand.tmp 10)
                  refine AnyO.StepP.mk rfl [] (by kernel_rfl) ?_
                  intro vs u hE hp ac hb K hK
                  have s10 : ac.tmps[10]?.getD undef = .pointer (some ⟨wc.heap.size, 0, none⟩) := by rw [hb]; kernel_rfl
                  rw [if_pos (AnyO.wanted_none rfl)]
                  clear hb hp
                  have c10 := hE.1.c10
                  go_simp
                  exact hK _ _ hE (fun _ _ _ h => h) rfl
                · -- 1: Op.load 22 (Operand.tmp 2)
                  refine AnyO.StepP.mk rfl [] (by kernel_rfl) ?_
                  intro vs u hE hp ac hb K hK
                  have s2 : ac.tmps[2]?.getD undef = .pointer (some ⟨w.heap.size, 0, none⟩) := by rw [hb]; kernel_rfl
                  rw [if_pos (AnyO.wanted_none rfl)]
                  clear hb hp
                  have c2 := hE.1.m.e.c2
                  go_simp
                  exact hK _ _ hE (fun _ _ _ h => h) rfl
                · -- 2: Op.call { callee := Callee.builtin Builtin.len, args := #[Op
                  refine AnyO.StepP.mk rfl [1] (by kernel_rfl) ?_
                  intro vs u hE hp ac hb K hK
                  have s125 : ac.tmps[125]?.getD undef = .slice A xs.length c := by rw [hb]; exact (show _ = vs 1 by kernel_rfl).trans (hp 1 (by decide))
                  rw [if_pos (AnyO.wanted_none rfl)]
                  clear hb hp
                  go_simp
                  exact hK _ _ hE (fun _ _ _ h => h) rfl
                · -- 3: Op.binOp BinOp.eql 3 (Operand.tmp 124) (Operand.tmp 126) 3
                  refine AnyO.StepP.mk rfl [0, 2] (by kernel_rfl) ?_
                  intro vs u hE hp ac hb K hK
                  have s124 : ac.tmps[124]?.getD undef = .int .i64 (xs.length : Int) := by rw [hb]; exact (show _ = vs 0 by kernel_rfl).trans (hp 0 (by decide))
                  have s126 : ac.tmps[126]?.getD undef = .int .i64 xs.length := by rw [hb]; exact (show _ = vs 2 by kernel_rfl).trans (hp 2 (by decide))
                  rw [if_pos (AnyO.wanted_none rfl)]
                  clear hb hp
                  go_simp
                  first | exact hK _ _ hE (fun _ _ _ h => h) rfl | (simp; exact hK _ _ hE (fun _ _ _ h => h) rfl)
                · -- 4: Op.move (Operand.tmp 127)
                  refine AnyO.StepP.mk rfl [3] (by kernel_rfl) ?_
                  intro vs u hE hp ac hb K hK
                  have s127 : ac.tmps[127]?.getD undef = .bool true := by rw [hb]; exact (show _ = vs 3 by kernel_rfl).trans (hp 3 (by decide))
                  rw [if_pos (AnyO.wanted_none rfl)]
                  clear hb hp
                  go_simp
                  exact hK _ _ hE (fun _ _ _ h => h) rfl
                · -- 5: Op.load 3 (Operand.tmp 10)
                  refine AnyO.StepP.mk rfl [4] (by kernel_rfl) ?_
                  intro vs u hE hp ac hb K hK
                  have s128 : ac.tmps[128]?.getD undef = .bool true := by rw [hb]; exact (show _ = vs 4 by kernel_rfl).trans (hp 4 (by decide))
                  rw [if_neg (AnyO.wanted_no (g := 4) (t := 128) (want := false) rfl rfl s128)]
                  clear hb hp
                  exact hK _ _ hE (fun _ _ _ h => h) rfl
                · -- 6: Op.load 3 (Operand.tmp 3)
                  refine AnyO.StepP.mk rfl [4] (by kernel_rfl) ?_
                  intro vs u hE hp ac hb K hK
                  have s128 : ac.tmps[128]?.getD undef = .bool true := by rw [hb]; exact (show _ = vs 4 by kernel_rfl).trans (hp 4 (by decide))
                  rw [if_neg (AnyO.wanted_no (g := 4) (t := 128) (want := false) rfl rfl s128)]
                  clear hb hp
                  exact hK _ _ hE (fun _ _ _ h => h) rfl
                · -- 7: Op.binOp BinOp.eql 3 (Operand.tmp 129) (Operand.tmp 130) 3
                  refine AnyO.StepP.mk rfl [5, 6, 4] (by kernel_rfl) ?_
                  intro vs u hE hp ac hb K hK
                  have s128 : ac.tmps[128]?.getD undef = .bool true := by rw [hb]; exact (show _ = vs 4 by kernel_rfl).trans (hp 4 (by decide))
                  rw [if_neg (AnyO.wanted_no (g := 4) (t := 128) (want := false) rfl rfl s128)]
                  clear hb hp
                  exact hK _ _ hE (fun _ _ _ h => h) rfl
                · -- 8: Op.pick (Operand.tmp 128) (Operand.const (Value.bool true)) 
                  refine AnyO.StepP.mk rfl [4, 7] (by kernel_rfl) ?_
                  intro vs u hE hp ac hb K hK
                  have s128 : ac.tmps[128]?.getD undef = .bool true := by rw [hb]; exact (show _ = vs 4 by kernel_rfl).trans (hp 4 (by decide))
                  have s131 : ac.tmps[131]?.getD undef = undef := by rw [hb]; exact (show _ = vs 7 by kernel_rfl).trans (hp 7 (by decide))
                  rw [if_pos (AnyO.wanted_none rfl)]
                  clear hb hp
                  go_simp
                  first | exact hK _ _ hE (fun _ _ _ h => h) rfl | (simp; exact hK _ _ hE (fun _ _ _ h => h) rfl)
                · -- 9: Op.move (Operand.tmp 132)
                  refine AnyO.StepP.mk rfl [8, 4] (by kernel_rfl) ?_
                  intro vs u hE hp ac hb K hK
                  have s132 : ac.tmps[132]?.getD undef = .bool true := by rw [hb]; exact (show _ = vs 8 by kernel_rfl).trans (hp 8 (by decide))
                  rw [if_pos (AnyO.wanted_none rfl)]
                  clear hb hp
                  go_simp
                  exact hK _ _ hE (fun _ _ _ h => h) rfl
                · -- 10: Op.move (Operand.tmp 14)
                  refine AnyO.StepP.mk rfl [9] (by kernel_rfl) ?_
                  intro vs u hE hp ac hb K hK
                  have s14 : ac.tmps[14]?.getD undef = .bool true := by rw [hb]; kernel_rfl
                  have s133 : ac.tmps[133]?.getD undef = .bool true := by rw [hb]; exact (show _ = vs 9 by kernel_rfl).trans (hp 9 (by decide))
                  rw [if_pos (AnyO.wanted_some (g := 9) (t := 133) (want := true) rfl rfl s133)]
                  clear hb hp
                  go_simp
                  exact hK _ _ hE (fun _ _ _ h => h) rfl
                · -- 11: Op.load 22 (Operand.tmp 2)
                  refine AnyO.StepP.mk rfl [9] (by kernel_rfl) ?_
                  intro vs u hE hp ac hb K hK
                  have s2 : ac.tmps[2]?.getD undef = .pointer (some ⟨w.heap.size, 0, none⟩) := by rw [hb]; kernel_rfl
                  have s133 : ac.tmps[133]?.getD undef = .bool true := by rw [hb]; exact (show _ = vs 9 by kernel_rfl).trans (hp 9 (by decide))
                  rw [if_pos (AnyO.wanted_some (g := 9) (t := 133) (want := true) rfl rfl s133)]
                  clear hb hp
                  have c2 := hE.1.m.e.c2
                  go_simp
                  exact hK _ _ hE (fun _ _ _ h => h) rfl
                · -- 12: Op.call { callee := Callee.builtin Builtin.len, args := #[Op
                  refine AnyO.StepP.mk rfl [11, 9] (by kernel_rfl) ?_
                  intro vs u hE hp ac hb K hK
                  have s135 : ac.tmps[135]?.getD undef = .slice A xs.length c := by rw [hb]; exact (show _ = vs 11 by kernel_rfl).trans (hp 11 (by decide))
                  have s133 : ac.tmps[133]?.getD undef = .bool true := by rw [hb]; exact (show _ = vs 9 by kernel_rfl).trans (hp 9 (by decide))
                  rw [if_pos (AnyO.wanted_some (g := 9) (t := 133) (want := true) rfl rfl s133)]
                  clear hb hp
                  go_simp
                  exact hK _ _ hE (fun _ _ _ h => h) rfl
                · -- 13: Op.binOp BinOp.gtr 3 (Operand.tmp 136) (Operand.const (Value
                  refine AnyO.StepP.mk rfl [12, 9] (by kernel_rfl) ?_
                  intro vs u hE hp ac hb K hK
                  have s136 : ac.tmps[136]?.getD undef = .int .i64 xs.length := by rw [hb]; exact (show _ = vs 12 by kernel_rfl).trans (hp 12 (by decide))
                  have s133 : ac.tmps[133]?.getD undef = .bool true := by rw [hb]; exact (show _ = vs 9 by kernel_rfl).trans (hp 9 (by decide))
                  rw [if_pos (AnyO.wanted_some (g := 9) (t := 133) (want := true) rfl rfl s133)]
                  clear hb hp
                  go_simp
                  first | exact hK _ _ hE (fun _ _ _ h => h) rfl | (rw [hgt]; exact hK _ _ hE (fun _ _ _ h => h) rfl) | (rw [hgt2]; exact hK _ _ hE (fun _ _ _ h => h) rfl)
                · -- 14: Op.binOp BinOp.eql 4 (Operand.tmp 134) (Operand.tmp 137) 4
                  refine AnyO.StepP.mk rfl [10, 13, 9] (by kernel_rfl) ?_
                  intro vs u hE hp ac hb K hK
                  have s134 : ac.tmps[134]?.getD undef = .bool true := by rw [hb]; exact (show _ = vs 10 by kernel_rfl).trans (hp 10 (by decide))
                  have s137 : ac.tmps[137]?.getD undef = .bool true := by rw [hb]; exact (show _ = vs 13 by kernel_rfl).trans (hp 13 (by decide))
                  have s133 : ac.tmps[133]?.getD undef = .bool true := by rw [hb]; exact (show _ = vs 9 by kernel_rfl).trans (hp 9 (by decide))
                  rw [if_pos (AnyO.wanted_some (g := 9) (t := 133) (want := true) rfl rfl s133)]
                  clear hb hp
                  go_simp
                  first | exact hK _ _ hE (fun _ _ _ h => h) rfl | (simp; exact hK _ _ hE (fun _ _ _ h => h) rfl)
                · -- 15: Op.pick (Operand.tmp 133) (Operand.tmp 138) (Operand.const (
                  refine AnyO.StepP.mk rfl [9, 14] (by kernel_rfl) ?_
                  intro vs u hE hp ac hb K hK
                  have s133 : ac.tmps[133]?.getD undef = .bool true := by rw [hb]; exact (show _ = vs 9 by kernel_rfl).trans (hp 9 (by decide))
                  have s138 : ac.tmps[138]?.getD undef = .bool true := by rw [hb]; exact (show _ = vs 14 by kernel_rfl).trans (hp 14 (by decide))
                  rw [if_pos (AnyO.wanted_none rfl)]
                  clear hb hp
                  go_simp
                  first | exact hK _ _ hE (fun _ _ _ h => h) rfl | (simp; exact hK _ _ hE (fun _ _ _ h => h) rfl)
                · -- 16: Op.move (Operand.tmp 139)
                  refine AnyO.StepP.mk rfl [15, 9] (by kernel_rfl) ?_
                  intro vs u hE hp ac hb K hK
                  have s139 : ac.tmps[139]?.getD undef = .bool true := by rw [hb]; exact (show _ = vs 15 by kernel_rfl).trans (hp 15 (by decide))
                  rw [if_pos (AnyO.wanted_none rfl)]
                  clear hb hp
                  go_simp
                  exact hK _ _ hE (fun _ _ _ h => h) rfl
                · -- 17: Op.move (Operand.tmp 14)
                  refine AnyO.StepP.mk rfl [16] (by kernel_rfl) ?_
                  intro vs u hE hp ac hb K hK
                  have s14 : ac.tmps[14]?.getD undef = .bool true := by rw [hb]; kernel_rfl
                  have s140 : ac.tmps[140]?.getD undef = .bool true := by rw [hb]; exact (show _ = vs 16 by kernel_rfl).trans (hp 16 (by decide))
                  rw [if_pos (AnyO.wanted_some (g := 16) (t := 140) (want := true) rfl rfl s140)]
                  clear hb hp
                  go_simp
                  exact hK _ _ hE (fun _ _ _ h => h) rfl
                · -- 18: Op.unOp UnOp.not 4 (Operand.tmp 141)
                  refine AnyO.StepP.mk rfl [17, 16] (by kernel_rfl) ?_
                  intro vs u hE hp ac hb K hK
                  have s141 : ac.tmps[141]?.getD undef = .bool true := by rw [hb]; exact (show _ = vs 17 by kernel_rfl).trans (hp 17 (by decide))
                  have s140 : ac.tmps[140]?.getD undef = .bool true := by rw [hb]; exact (show _ = vs 16 by kernel_rfl).trans (hp 16 (by decide))
                  rw [if_pos (AnyO.wanted_some (g := 16) (t := 140) (want := true) rfl rfl s140)]
                  clear hb hp
                  go_simp
                  exact hK _ _ hE (fun _ _ _ h => h) rfl
                · -- 19: Op.move (Operand.tmp 142)
                  refine AnyO.StepP.mk rfl [18, 16, 16] (by kernel_rfl) ?_
                  intro vs u hE hp ac hb K hK
                  have s142 : ac.tmps[142]?.getD undef = .bool false := by rw [hb]; exact (show _ = vs 18 by kernel_rfl).trans (hp 18 (by decide))
                  have s140 : ac.tmps[140]?.getD undef = .bool true := by rw [hb]; exact (show _ = vs 16 by kernel_rfl).trans (hp 16 (by decide))
                  rw [if_pos (AnyO.wanted_some (g := 16) (t := 140) (want := true) rfl rfl s140)]
                  clear hb hp
                  go_simp
                  exact hK _ _ hE (fun _ _ _ h => h) rfl
                · -- 20: Op.load 33 (Operand.tmp 13)
                  refine AnyO.StepP.mk rfl [19] (by kernel_rfl) ?_
                  intro vs u hE hp ac hb K hK
                  have s13 : ac.tmps[13]?.getD undef = .pointer (some ⟨b13, 0, none⟩) := by rw [hb]; kernel_rfl
                  have s143 : ac.tmps[143]?.getD undef = .bool false := by rw [hb]; exact (show _ = vs 19 by kernel_rfl).trans (hp 19 (by decide))
                  rw [if_pos (AnyO.wanted_some (g := 19) (t := 143) (want := false) rfl rfl s143)]
                  clear hb hp
                  have h1 := hE.2.1.ok
                  have h2 := hE.2.1.rd
                  rw [cI_length] at h1 h2
                  go_simp
                  exact hK _ _ hE (fun _ _ _ h => h) rfl
                · -- 21: Op.load 24 (Operand.tmp 5)
                  refine AnyO.StepP.mk rfl [19] (by kernel_rfl) ?_
                  intro vs u hE hp ac hb K hK
                  have s5 : ac.tmps[5]?.getD undef = .pointer (some ⟨b5, 0, none⟩) := by rw [hb]; kernel_rfl
                  have s143 : ac.tmps[143]?.getD undef = .bool false := by rw [hb]; exact (show _ = vs 19 by kernel_rfl).trans (hp 19 (by decide))
                  rw [if_pos (AnyO.wanted_some (g := 19) (t := 143) (want := false) rfl rfl s143)]
                  clear hb hp
                  have c5 := hE.1.m.c5
                  go_simp
                  exact hK _ _ hE (fun _ _ _ h => h) rfl
                · -- 22: Op.load 22 (Operand.tmp 2)
                  refine AnyO.StepP.mk rfl [19] (by kernel_rfl) ?_
                  intro vs u hE hp ac hb K hK
                  have s2 : ac.tmps[2]?.getD undef = .pointer (some ⟨w.heap.size, 0, none⟩) := by rw [hb]; kernel_rfl
                  have s143 : ac.tmps[143]?.getD undef = .bool false := by rw [hb]; exact (show _ = vs 19 by kernel_rfl).trans (hp 19 (by decide))
                  rw [if_pos (AnyO.wanted_some (g := 19) (t := 143) (want := false) rfl rfl s143)]
                  clear hb hp
                  have c2 := hE.1.m.e.c2
                  go_simp
                  exact hK _ _ hE (fun _ _ _ h => h) rfl
                · -- 23: Op.call { callee := Callee.builtin Builtin.len, args := #[Op
                  refine AnyO.StepP.mk rfl [22, 19] (by kernel_rfl) ?_
                  intro vs u hE hp ac hb K hK
                  have s146 : ac.tmps[146]?.getD undef = .slice A xs.length c := by rw [hb]; exact (show _ = vs 22 by kernel_rfl).trans (hp 22 (by decide))
                  have s143 : ac.tmps[143]?.getD undef = .bool false := by rw [hb]; exact (show _ = vs 19 by kernel_rfl).trans (hp 19 (by decide))
                  rw [if_pos (AnyO.wanted_some (g := 19) (t := 143) (want := false) rfl rfl s143)]
                  clear hb hp
                  go_simp
                  exact hK _ _ hE (fun _ _ _ h => h) rfl
                · -- 24: Op.binOp BinOp.sub 3 (Operand.tmp 147) (Operand.const (Value
                  refine AnyO.StepP.mk rfl [23, 19] (by kernel_rfl) ?_
                  intro vs u hE hp ac hb K hK
                  have s147 : ac.tmps[147]?.getD undef = .int .i64 xs.length := by rw [hb]; exact (show _ = vs 23 by kernel_rfl).trans (hp 23 (by decide))
                  have s143 : ac.tmps[143]?.getD undef = .bool false := by rw [hb]; exact (show _ = vs 19 by kernel_rfl).trans (hp 19 (by decide))
                  rw [if_pos (AnyO.wanted_some (g := 19) (t := 143) (want := false) rfl rfl s143)]
                  clear hb hp
                  have hl0 := HX.out.2.2
                  go_simp
                  first | (rw [IntWalk.i64_in _ (by omega)]; exact hK _ _ hE (fun _ _ _ h => h) rfl) | (rw [IntWalk.i64_in _ (by omega), hk1]; exact hK _ _ hE (fun _ _ _ h => h) rfl)
                · -- 25: Op.indexAddr 24 (Operand.tmp 145) (Operand.tmp 148)
                  refine AnyO.StepP.mk rfl [21, 24, 19] (by kernel_rfl) ?_
                  intro vs u hE hp ac hb K hK
                  have s145 : ac.tmps[145]?.getD undef = .slice (some ad2) xs.length d2 := by rw [hb]; exact (show _ = vs 21 by kernel_rfl).trans (hp 21 (by decide))
                  have s148 : ac.tmps[148]?.getD undef = .int .i64 (k : Int) := by rw [hb]; exact (show _ = vs 24 by kernel_rfl).trans (hp 24 (by decide))
                  have s143 : ac.tmps[143]?.getD undef = .bool false := by rw [hb]; exact (show _ = vs 19 by kernel_rfl).trans (hp 19 (by decide))
                  rw [if_pos (AnyO.wanted_some (g := 19) (t := 143) (want := false) rfl rfl s143)]
                  clear hb hp
                  have hi1 : (0 : Int) ≤ (k : Int) := by omega
                  have hi2 : (k : Int) < (xs.length : Int) := by omega
                  go_simp
                  exact hK _ _ hE (fun _ _ _ h => h) rfl
                · -- 26: Op.load 33 (Operand.tmp 149)
                  refine AnyO.StepP.mk rfl [25, 19] (by kernel_rfl) ?_
                  intro vs u hE hp ac hb K hK
                  have s149 : ac.tmps[149]?.getD undef = .pointer (some (ad2.add (k * 32))) := by rw [hb]; exact (show _ = vs 25 by kernel_rfl).trans (hp 25 (by decide))
                  have s143 : ac.tmps[143]?.getD undef = .bool false := by rw [hb]; exact (show _ = vs 19 by kernel_rfl).trans (hp 19 (by decide))
                  rw [if_pos (AnyO.wanted_some (g := 19) (t := 143) (want := false) rfl rfl s143)]
                  clear hb hp
                  obtain ⟨ad3, h0, h1, h2⟩ := Sl.rd hE.1.m.sl.sl hkl
                  obtain rfl : ad2 = ad3 := by injection h0
                  go_simp
                  exact hK _ _ hE (fun _ _ _ h => h) rfl
                · -- 27: Op.binOp BinOp.eql 33 (Operand.tmp 144) (Operand.tmp 150) 33
                  refine AnyO.StepP.mk rfl [20, 26, 19] (by kernel_rfl) ?_
                  intro vs u hE hp ac hb K hK
                  have s144 : ac.tmps[144]?.getD undef = vI xs[k] := by rw [hb]; exact (show _ = vs 20 by kernel_rfl).trans (hp 20 (by decide))
                  have s150 : ac.tmps[150]?.getD undef = vI xs[k] := by rw [hb]; exact (show _ = vs 26 by kernel_rfl).trans (hp 26 (by decide))
                  have s143 : ac.tmps[143]?.getD undef = .bool false := by rw [hb]; exact (show _ = vs 19 by kernel_rfl).trans (hp 19 (by decide))
                  rw [if_pos (AnyO.wanted_some (g := 19) (t := 143) (want := false) rfl rfl s143)]
                  clear hb hp
                  go_simp
                  first | exact hK _ _ hE (fun _ _ _ h => h) rfl | (simp; exact hK _ _ hE (fun _ _ _ h => h) rfl)
                · -- 28: Op.pick (Operand.tmp 143) (Operand.const (Value.bool true)) 
                  refine AnyO.StepP.mk rfl [19, 27, 16] (by kernel_rfl) ?_
                  intro vs u hE hp ac hb K hK
                  have s143 : ac.tmps[143]?.getD undef = .bool false := by rw [hb]; exact (show _ = vs 19 by kernel_rfl).trans (hp 19 (by decide))
                  have s151 : ac.tmps[151]?.getD undef = .bool true := by rw [hb]; exact (show _ = vs 27 by kernel_rfl).trans (hp 27 (by decide))
                  have s140 : ac.tmps[140]?.getD undef = .bool true := by rw [hb]; exact (show _ = vs 16 by kernel_rfl).trans (hp 16 (by decide))
                  rw [if_pos (AnyO.wanted_some (g := 16) (t := 140) (want := true) rfl rfl s140)]
                  clear hb hp
                  go_simp
                  first | exact hK _ _ hE (fun _ _ _ h => h) rfl | (simp; exact hK _ _ hE (fun _ _ _ h => h) rfl)
                · -- 29: Op.pick (Operand.tmp 140) (Operand.tmp 152) (Operand.const (
                  refine AnyO.StepP.mk rfl [16, 28] (by kernel_rfl) ?_
                  intro vs u hE hp ac hb K hK
                  have s140 : ac.tmps[140]?.getD undef = .bool true := by rw [hb]; exact (show _ = vs 16 by kernel_rfl).trans (hp 16 (by decide))
                  have s152 : ac.tmps[152]?.getD undef = .bool true := by rw [hb]; exact (show _ = vs 28 by kernel_rfl).trans (hp 28 (by decide))
                  rw [if_pos (AnyO.wanted_none rfl)]
                  clear hb hp
                  go_simp
                  first | exact hK _ _ hE (fun _ _ _ h => h) rfl | (simp; exact hK _ _ hE (fun _ _ _ h => h) rfl)
                · -- 30: Op.move (Operand.tmp 153)
                  refine AnyO.StepP.mk rfl [29, 19] (by kernel_rfl) ?_
                  intro vs u hE hp ac hb K hK
                  have s153 : ac.tmps[153]?.getD undef = .bool true := by rw [hb]; exact (show _ = vs 29 by kernel_rfl).trans (hp 29 (by decide))
                  rw [if_pos (AnyO.wanted_none rfl)]
                  clear hb hp
                  go_simp
                  exact hK _ _ hE (fun _ _ _ h => h) rfl
                · -- 31: Op.move (Operand.tmp 16)
                  refine AnyO.StepP.mk rfl [30] (by kernel_rfl) ?_
                  intro vs u hE hp ac hb K hK
                  have s16 : ac.tmps[16]?.getD undef = .int .i64 xs.length := by rw [hb]; kernel_rfl
                  have s154 : ac.tmps[154]?.getD undef = .bool true := by rw [hb]; exact (show _ = vs 30 by kernel_rfl).trans (hp 30 (by decide))
                  rw [if_pos (AnyO.wanted_some (g := 30) (t := 154) (want := true) rfl rfl s154)]
                  clear hb hp
                  go_simp
                  exact hK _ _ hE (fun _ _ _ h => h) rfl
                · -- 32: Op.load 22 (Operand.tmp 2)
                  refine AnyO.StepP.mk rfl [30] (by kernel_rfl) ?_
                  intro vs u hE hp ac hb K hK
                  have s2 : ac.tmps[2]?.getD undef = .pointer (some ⟨w.heap.size, 0, none⟩) := by rw [hb]; kernel_rfl
                  have s154 : ac.tmps[154]?.getD undef = .bool true := by rw [hb]; exact (show _ = vs 30 by kernel_rfl).trans (hp 30 (by decide))
                  rw [if_pos (AnyO.wanted_some (g := 30) (t := 154) (want := true) rfl rfl s154)]
                  clear hb hp
                  have c2 := hE.1.m.e.c2
                  go_simp
                  exact hK _ _ hE (fun _ _ _ h => h) rfl
                · -- 33: Op.call { callee := Callee.builtin Builtin.len, args := #[Op
                  refine AnyO.StepP.mk rfl [32, 30] (by kernel_rfl) ?_
                  intro vs u hE hp ac hb K hK
                  have s156 : ac.tmps[156]?.getD undef = .slice A xs.length c := by rw [hb]; exact (show _ = vs 32 by kernel_rfl).trans (hp 32 (by decide))
                  have s154 : ac.tmps[154]?.getD undef = .bool true := by rw [hb]; exact (show _ = vs 30 by kernel_rfl).trans (hp 30 (by decide))
                  rw [if_pos (AnyO.wanted_some (g := 30) (t := 154) (want := true) rfl rfl s154)]
                  clear hb hp
                  go_simp
                  exact hK _ _ hE (fun _ _ _ h => h) rfl
                · -- 34: Op.binOp BinOp.eql 3 (Operand.tmp 155) (Operand.tmp 157) 3
                  refine AnyO.StepP.mk rfl [31, 33, 30] (by kernel_rfl) ?_
                  intro vs u hE hp ac hb K hK
                  have s155 : ac.tmps[155]?.getD undef = .int .i64 xs.length := by rw [hb]; exact (show _ = vs 31 by kernel_rfl).trans (hp 31 (by decide))
                  have s157 : ac.tmps[157]?.getD undef = .int .i64 xs.length := by rw [hb]; exact (show _ = vs 33 by kernel_rfl).trans (hp 33 (by decide))
                  have s154 : ac.tmps[154]?.getD undef = .bool true := by rw [hb]; exact (show _ = vs 30 by kernel_rfl).trans (hp 30 (by decide))
                  rw [if_pos (AnyO.wanted_some (g := 30) (t := 154) (want := true) rfl rfl s154)]
                  clear hb hp
                  go_simp
                  first | exact hK _ _ hE (fun _ _ _ h => h) rfl | (simp; exact hK _ _ hE (fun _ _ _ h => h) rfl)
                · -- 35: Op.pick (Operand.tmp 154) (Operand.tmp 158) (Operand.const (
                  refine AnyO.StepP.mk rfl [30, 34] (by kernel_rfl) ?_
                  intro vs u hE hp ac hb K hK
                  have s154 : ac.tmps[154]?.getD undef = .bool true := by rw [hb]; exact (show _ = vs 30 by kernel_rfl).trans (hp 30 (by decide))
                  have s158 : ac.tmps[158]?.getD undef = .bool true := by rw [hb]; exact (show _ = vs 34 by kernel_rfl).trans (hp 34 (by decide))
                  rw [if_pos (AnyO.wanted_none rfl)]
                  clear hb hp
                  go_simp
                  first | exact hK _ _ hE (fun _ _ _ h => h) rfl | (simp; exact hK _ _ hE (fun _ _ _ h => h) rfl)
                · -- 36: Op.move (Operand.tmp 159)
                  refine AnyO.StepP.mk rfl [35, 30] (by kernel_rfl) ?_
                  intro vs u hE hp ac hb K hK
                  have s159 : ac.tmps[159]?.getD undef = .bool true := by rw [hb]; exact (show _ = vs 35 by kernel_rfl).trans (hp 35 (by decide))
                  rw [if_pos (AnyO.wanted_none rfl)]
                  clear hb hp
                  go_simp
                  exact hK _ _ hE (fun _ _ _ h => h) rfl
                · -- 37: Op.move (Operand.tmp 17)
                  refine AnyO.StepP.mk rfl [36] (by kernel_rfl) ?_
                  intro vs u hE hp ac hb K hK
                  have s17 : ac.tmps[17]?.getD undef = .bool false := by rw [hb]; kernel_rfl
                  have s160 : ac.tmps[160]?.getD undef = .bool true := by rw [hb]; exact (show _ = vs 36 by kernel_rfl).trans (hp 36 (by decide))
                  rw [if_pos (AnyO.wanted_some (g := 36) (t := 160) (want := true) rfl rfl s160)]
                  clear hb hp
                  go_simp
                  exact hK _ _ hE (fun _ _ _ h => h) rfl
                · -- 38: Op.unOp UnOp.not 4 (Operand.tmp 161)
                  refine AnyO.StepP.mk rfl [37, 36] (by kernel_rfl) ?_
                  intro vs u hE hp ac hb K hK
                  have s161 : ac.tmps[161]?.getD undef = .bool false := by rw [hb]; exact (show _ = vs 37 by kernel_rfl).trans (hp 37 (by decide))
                  have s160 : ac.tmps[160]?.getD undef = .bool true := by rw [hb]; exact (show _ = vs 36 by kernel_rfl).trans (hp 36 (by decide))
                  rw [if_pos (AnyO.wanted_some (g := 36) (t := 160) (want := true) rfl rfl s160)]
                  clear hb hp
                  go_simp
                  first | exact hK _ _ hE (fun _ _ _ h => h) rfl | (simp; exact hK _ _ hE (fun _ _ _ h => h) rfl)
                · -- 39: Op.pick (Operand.tmp 160) (Operand.tmp 162) (Operand.const (
                  refine AnyO.StepP.mk rfl [36, 38] (by kernel_rfl) ?_
                  intro vs u hE hp ac hb K hK
                  have s160 : ac.tmps[160]?.getD undef = .bool true := by rw [hb]; exact (show _ = vs 36 by kernel_rfl).trans (hp 36 (by decide))
                  have s162 : ac.tmps[162]?.getD undef = .bool true := by rw [hb]; exact (show _ = vs 38 by kernel_rfl).trans (hp 38 (by decide))
                  rw [if_pos (AnyO.wanted_none rfl)]
                  clear hb hp
                  go_simp
                  first | exact hK _ _ hE (fun _ _ _ h => h) rfl | (simp; exact hK _ _ hE (fun _ _ _ h => h) rfl)
              · intro vs u hE hp
                have e0 : vs 0 = .int .i64 (xs.length : Int) := hp 0 (by decide)
                have e1 : vs 1 = .slice A xs.length c := hp 1 (by decide)
                have e2 : vs 2 = .int .i64 xs.length := hp 2 (by decide)
                have e3 : vs 3 = .bool true := hp 3 (by decide)
                have e4 : vs 4 = .bool true := hp 4 (by decide)
                have e5 : vs 5 = undef := hp 5 (by decide)
                have e6 : vs 6 = undef := hp 6 (by decide)
                have e7 : vs 7 = undef := hp 7 (by decide)
                have e8 : vs 8 = .bool true := hp 8 (by decide)
                have e9 : vs 9 = .bool true := hp 9 (by decide)
                have e10 : vs 10 = .bool true := hp 10 (by decide)
                have e11 : vs 11 = .slice A xs.length c := hp 11 (by decide)
                have e12 : vs 12 = .int .i64 xs.length := hp 12 (by decide)
                have e13 : vs 13 = .bool true := hp 13 (by decide)
                have e14 : vs 14 = .bool true := hp 14 (by decide)
                have e15 : vs 15 = .bool true := hp 15 (by decide)
                have e16 : vs 16 = .bool true := hp 16 (by decide)
                have e17 : vs 17 = .bool true := hp 17 (by decide)
                have e18 : vs 18 = .bool false := hp 18 (by decide)
                have e19 : vs 19 = .bool false := hp 19 (by decide)
                have e20 : vs 20 = vI xs[k] := hp 20 (by decide)
                have e21 : vs 21 = .slice (some ad2) xs.length d2 := hp 21 (by decide)
                have e22 : vs 22 = .slice A xs.length c := hp 22 (by decide)
                have e23 : vs 23 = .int .i64 xs.length := hp 23 (by decide)
                have e24 : vs 24 = .int .i64 (k : Int) := hp 24 (by decide)
                have e25 : vs 25 = .pointer (some (ad2.add (k * 32))) := hp 25 (by decide)
                have e26 : vs 26 = vI xs[k] := hp 26 (by decide)
                have e27 : vs 27 = .bool true := hp 27 (by decide)
                have e28 : vs 28 = .bool true := hp 28 (by decide)
                have e29 : vs 29 = .bool true := hp 29 (by decide)
                have e30 : vs 30 = .bool true := hp 30 (by decide)
                have e31 : vs 31 = .int .i64 xs.length := hp 31 (by decide)
                have e32 : vs 32 = .slice A xs.length c := hp 32 (by decide)
                have e33 : vs 33 = .int .i64 xs.length := hp 33 (by decide)
                have e34 : vs 34 = .bool true := hp 34 (by decide)
                have e35 : vs 35 = .bool true := hp 35 (by decide)
                have e36 : vs 36 = .bool true := hp 36 (by decide)
                have e37 : vs 37 = .bool false := hp 37 (by decide)
                have e38 : vs 38 = .bool true := hp 38 (by decide)
                have e39 : vs 39 = .bool true := hp 39 (by decide)
                clear hp
                rw [puts_range [some 124, some 125, some 126, some 127, some 128, some 129, some 130, some 131, some 132, some 133, some 134, some 135, some 136, some 137, some 138, some 139, some 140, some 141, some 142, some 143, some 144, some 145, some 146, some 147, some 148, some 149, some 150, some 151, some 152, some 153, some 154, some 155, some 156, some 157, some 158, some 159, some 160, some 161, some 162, some 163] (by kernel_rfl)]
                simp only [putL, Nat.reduceAdd, List.drop_succ_cons, List.drop_zero, e0, e1, e2, e3, e4, e5, e6, e7, e8, e9, e10, e11, e12, e13, e14, e15, e16, e17, e18, e19, e20, e21, e22, e23, e24, e25, e26, e27, e28, e29, e30, e31, e32, e33, e34, e35, e36, e37, e38, e39]
                clear e0 e1 e2 e3 e4 e5 e6 e7 e8 e9 e10 e11 e12 e13 e14 e15 e16 e17 e18 e19 e20 e21 e22 e23 e24 e25 e26 e27 e28 e29 e30 e31 e32 e33 e34 e35 e36 e37 e38 e39
                go_simp
                have c4 := hE.1.m.e.c4
                have f4 := hE.1.m.e.f4
                have hKu : u.heap[D]? = some (.deferred (some [])) := (hE.2.2.block D (Array.getElem?_eq_some_iff.1 HW.out.2.2).1).trans HW.out.2.2
                have k4 : (u.setCell ⟨w.heap.size + 1 + 1, 0, none⟩ (.bool true)).cell? ⟨w.heap.size + 1 + 1, 0, none⟩ = some (.bool true) := World.cell?_setCell_same' _ _ _ (by rw [c4]; rfl)
                have hKs : (u.setCell ⟨w.heap.size + 1 + 1, 0, none⟩ (.bool true)).heap[D]? = some (.deferred (some [])) := (KeepsOthers.setCell _ _ _).same _ _ hKu rfl
                have k5 := cell_kept k4 (grownBy_putObj' _ D (.deferred none)) (fun r e => by cases e; exact ⟨_, hKs, rfl⟩)
                have hbl : Below w.heap.size w (u.setCell ⟨w.heap.size + 1 + 1, 0, none⟩ (.bool true)) := hE.1.m.e.bl.setCell (p := ⟨w.heap.size + 1 + 1, 0, none⟩) (by dsimp only; omega) _
                have HS := Lib.hid (And.intro hKs (And.intro k5 hbl))
                clear hKu hKs k4 k5 hbl
                gi_wp2
                refine wp_ret ?_
                obtain ⟨hKs, k5, hbl⟩ := HS.out
                refine ⟨by simp, .inl ⟨_, _, rfl, run_takeDeferred hKs, ?_⟩⟩
                exact ⟨_, results_c1 (ad := ⟨w.heap.size + 1 + 1, 0, none⟩) rfl rfl (by simp [go_sem, k5]), rfl, hbl.trans (belowK_b (w := w) (Nat.le_refl _) _ D _ _ (by omega) hKs rfl rfl)⟩
            · obtain rfl : (n : Int) = stop := hn.resolve_left hnl
              have hn1 : ((n : Int) == (xs.length : Int)) = false := by simp; omega
              have hn2 : decide ((n : Int) = (xs.length : Int)) = false := by simp; omega
              clear hn
              refine AnyO.wpIn_any_tailP (.inl rfl) 40 (by kernel_rfl) (by kernel_rfl) (by kernel_rfl) (by kernel_rfl) (by kernel_rfl) (by kernel_rfl) (fun u => G4 w A c (n : Int) xs b5 b6 wc.heap.size (some ad2) d2 x n u ∧ At u ⟨b13, 0, none⟩ (cI xs[k]) ∧ Below W9.heap.size W9 u) (pstP [isV (.int .i64 (n : Int)), isV (.slice A xs.length c), isV (.int .i64 xs.length), isV (.bool false), isV (.bool false), isV (.int .i64 (n : Int)), isV (.int .i64 (n : Int)), isV (.bool true), isV (.bool true), isV (.bool true), isV (.bool true), isV (.slice A xs.length c), isV (.int .i64 xs.length), isV (.bool true), isV (.bool true), isV (.bool true), isV (.bool true), isV (.bool true), isV (.bool false), isV (.bool false), isV (vI xs[k]), isV (.slice (some ad2) xs.length d2), isV (.slice A xs.length c), isV (.int .i64 xs.length), isV (.int .i64 (k : Int)), isV (.pointer (some (ad2.add (k * 32)))), isV (vI xs[k]), isV (.bool true), isV (.bool true), isV (.bool true), isV (.bool true), isV (.int .i64 xs.length), isV (.slice A xs.length c), isV (.int .i64 xs.length), isV (.bool true), isV (.bool true), isV (.bool true), isV (.bool false), isV (.bool true), isV (.bool true)]) (⟨HW.out.1.keep (below_drew _), HW.out.2.1.keep (below_drew _), below_drew _⟩) ?_ ?_
              · intro i hi
                have hi2 : i = 0 ∨ i = 1 ∨ i = 2 ∨ i = 3 ∨ i = 4 ∨ i = 5 ∨ i = 6 ∨ i = 7 ∨ i = 8 ∨ i = 9 ∨ i = 10 ∨ i = 11 ∨ i = 12 ∨ i = 13 ∨ i = 14 ∨ i = 15 ∨ i = 16 ∨ i = 17 ∨ i = 18 ∨ i = 19 ∨ i = 20 ∨ i = 21 ∨ i = 22 ∨ i = 23 ∨ i = 24 ∨ i = 25 ∨ i = 26 ∨ i = 27 ∨ i = 28 ∨ i = 29 ∨ i = 30 ∨ i = 31 ∨ i = 32 ∨ i = 33 ∨ i = 34 ∨ i = 35 ∨ i = 36 ∨ i = 37 ∨ i = 38 ∨ i = 39 := by omega
                clear hi
                rcases hi2 with rfl | rfl | rfl | rfl | rfl | rfl | rfl | rfl | rfl | rfl | rfl | rfl | rfl | rfl | rfl | rfl | rfl | rfl | rfl | rfl | rfl | rfl | rfl | rfl | rfl | rfl | rfl | rfl | rfl | rfl | rfl | rfl | rfl | rfl | rfl | rfl | rfl | rfl | rfl | rfl
                · -- 0: Op.load 3 (Operand.tmp 10)
                  refine AnyO.StepP.mk rfl [] (by kernel_rfl) ?_
                  intro vs u hE hp ac hb K hK
                  have s10 : ac.tmps[10]?.getD undef = .pointer (some ⟨wc.heap.size, 0, none⟩) := by rw [hb]; kernel_rfl
                  rw [if_pos (AnyO.wanted_none rfl)]
                  clear hb hp
                  have c10 := hE.1.c10
                  go_simp
                  exact hK _ _ hE (fun _ _ _ h => h) rfl
                · -- 1: Op.load 22 (Operand.tmp 2)
                  refine AnyO.StepP.mk rfl [] (by kernel_rfl) ?_
                  intro vs u hE hp ac hb K hK
                  have s2 : ac.tmps[2]?.getD undef = .pointer (some ⟨w.heap.size, 0, none⟩) := by rw [hb]; kernel_rfl
                  rw [if_pos (AnyO.wanted_none rfl)]
                  clear hb hp
                  have c2 := hE.1.m.e.c2
                  go_simp
                  exact hK _ _ hE (fun _ _ _ h => h) rfl
                · -- 2: Op.call { callee := Callee.builtin Builtin.len, args := #[Op
                  refine AnyO.StepP.mk rfl [1] (by kernel_rfl) ?_
                  intro vs u hE hp ac hb K hK
                  have s125 : ac.tmps[125]?.getD undef = .slice A xs.length c := by rw [hb]; exact (show _ = vs 1 by kernel_rfl).trans (hp 1 (by decide))
                  rw [if_pos (AnyO.wanted_none rfl)]
                  clear hb hp
                  go_simp
                  exact hK _ _ hE (fun _ _ _ h => h) rfl
                · -- 3: Op.binOp BinOp.eql 3 (Operand.tmp 124) (Operand.tmp 126) 3
                  refine AnyO.StepP.mk rfl [0, 2] (by kernel_rfl) ?_
                  intro vs u hE hp ac hb K hK
                  have s124 : ac.tmps[124]?.getD undef = .int .i64 (n : Int) := by rw [hb]; exact (show _ = vs 0 by kernel_rfl).trans (hp 0 (by decide))
                  have s126 : ac.tmps[126]?.getD undef = .int .i64 xs.length := by rw [hb]; exact (show _ = vs 2 by kernel_rfl).trans (hp 2 (by decide))
                  rw [if_pos (AnyO.wanted_none rfl)]
                  clear hb hp
                  go_simp
                  first | exact hK _ _ hE (fun _ _ _ h => h) rfl | (rw [hn1]; exact hK _ _ hE (fun _ _ _ h => h) rfl) | (rw [hn2]; exact hK _ _ hE (fun _ _ _ h => h) rfl)
                · -- 4: Op.move (Operand.tmp 127)
                  refine AnyO.StepP.mk rfl [3] (by kernel_rfl) ?_
                  intro vs u hE hp ac hb K hK
                  have s127 : ac.tmps[127]?.getD undef = .bool false := by rw [hb]; exact (show _ = vs 3 by kernel_rfl).trans (hp 3 (by decide))
                  rw [if_pos (AnyO.wanted_none rfl)]
                  clear hb hp
                  go_simp
                  exact hK _ _ hE (fun _ _ _ h => h) rfl
                · -- 5: Op.load 3 (Operand.tmp 10)
                  refine AnyO.StepP.mk rfl [4] (by kernel_rfl) ?_
                  intro vs u hE hp ac hb K hK
                  have s10 : ac.tmps[10]?.getD undef = .pointer (some ⟨wc.heap.size, 0, none⟩) := by rw [hb]; kernel_rfl
                  have s128 : ac.tmps[128]?.getD undef = .bool false := by rw [hb]; exact (show _ = vs 4 by kernel_rfl).trans (hp 4 (by decide))
                  rw [if_pos (AnyO.wanted_some (g := 4) (t := 128) (want := false) rfl rfl s128)]
                  clear hb hp
                  have c10 := hE.1.c10
                  go_simp
                  exact hK _ _ hE (fun _ _ _ h => h) rfl
                · -- 6: Op.load 3 (Operand.tmp 3)
                  refine AnyO.StepP.mk rfl [4] (by kernel_rfl) ?_
                  intro vs u hE hp ac hb K hK
                  have s3 : ac.tmps[3]?.getD undef = .pointer (some ⟨w.heap.size + 1, 0, none⟩) := by rw [hb]; kernel_rfl
                  have s128 : ac.tmps[128]?.getD undef = .bool false := by rw [hb]; exact (show _ = vs 4 by kernel_rfl).trans (hp 4 (by decide))
                  rw [if_pos (AnyO.wanted_some (g := 4) (t := 128) (want := false) rfl rfl s128)]
                  clear hb hp
                  have c3 := hE.1.m.e.c3
                  go_simp
                  exact hK _ _ hE (fun _ _ _ h => h) rfl
                · -- 7: Op.binOp BinOp.eql 3 (Operand.tmp 129) (Operand.tmp 130) 3
                  refine AnyO.StepP.mk rfl [5, 6, 4] (by kernel_rfl) ?_
                  intro vs u hE hp ac hb K hK
                  have s129 : ac.tmps[129]?.getD undef = .int .i64 (n : Int) := by rw [hb]; exact (show _ = vs 5 by kernel_rfl).trans (hp 5 (by decide))
                  have s130 : ac.tmps[130]?.getD undef = .int .i64 (n : Int) := by rw [hb]; exact (show _ = vs 6 by kernel_rfl).trans (hp 6 (by decide))
                  have s128 : ac.tmps[128]?.getD undef = .bool false := by rw [hb]; exact (show _ = vs 4 by kernel_rfl).trans (hp 4 (by decide))
                  rw [if_pos (AnyO.wanted_some (g := 4) (t := 128) (want := false) rfl rfl s128)]
                  clear hb hp
                  go_simp
                  first | exact hK _ _ hE (fun _ _ _ h => h) rfl | (simp; exact hK _ _ hE (fun _ _ _ h => h) rfl)
                · -- 8: Op.pick (Operand.tmp 128) (Operand.const (Value.bool true)) 
                  refine AnyO.StepP.mk rfl [4, 7] (by kernel_rfl) ?_
                  intro vs u hE hp ac hb K hK
                  have s128 : ac.tmps[128]?.getD undef = .bool false := by rw [hb]; exact (show _ = vs 4 by kernel_rfl).trans (hp 4 (by decide))
                  have s131 : ac.tmps[131]?.getD undef = .bool true := by rw [hb]; exact (show _ = vs 7 by kernel_rfl).trans (hp 7 (by decide))
                  rw [if_pos (AnyO.wanted_none rfl)]
                  clear hb hp
                  go_simp
                  first | exact hK _ _ hE (fun _ _ _ h => h) rfl | (simp; exact hK _ _ hE (fun _ _ _ h => h) rfl)
                · -- 9: Op.move (Operand.tmp 132)
                  refine AnyO.StepP.mk rfl [8, 4] (by kernel_rfl) ?_
                  intro vs u hE hp ac hb K hK
                  have s132 : ac.tmps[132]?.getD undef = .bool true := by rw [hb]; exact (show _ = vs 8 by kernel_rfl).trans (hp 8 (by decide))
                  rw [if_pos (AnyO.wanted_none rfl)]
                  clear hb hp
                  go_simp
                  exact hK _ _ hE (fun _ _ _ h => h) rfl
                · -- 10: Op.move (Operand.tmp 14)
                  refine AnyO.StepP.mk rfl [9] (by kernel_rfl) ?_
                  intro vs u hE hp ac hb K hK
                  have s14 : ac.tmps[14]?.getD undef = .bool true := by rw [hb]; kernel_rfl
                  have s133 : ac.tmps[133]?.getD undef = .bool true := by rw [hb]; exact (show _ = vs 9 by kernel_rfl).trans (hp 9 (by decide))
                  rw [if_pos (AnyO.wanted_some (g := 9) (t := 133) (want := true) rfl rfl s133)]
                  clear hb hp
                  go_simp
                  exact hK _ _ hE (fun _ _ _ h => h) rfl
                · -- 11: Op.load 22 (Operand.tmp 2)
                  refine AnyO.StepP.mk rfl [9] (by kernel_rfl) ?_
                  intro vs u hE hp ac hb K hK
                  have s2 : ac.tmps[2]?.getD undef = .pointer (some ⟨w.heap.size, 0, none⟩) := by rw [hb]; kernel_rfl
                  have s133 : ac.tmps[133]?.getD undef = .bool true := by rw [hb]; exact (show _ = vs 9 by kernel_rfl).trans (hp 9 (by decide))
                  rw [if_pos (AnyO.wanted_some (g := 9) (t := 133) (want := true) rfl rfl s133)]
                  clear hb hp
                  have c2 := hE.1.m.e.c2
                  go_simp
                  exact hK _ _ hE (fun _ _ _ h => h) rfl
                · -- 12: Op.call { callee := Callee.builtin Builtin.len, args := #[Op
                  refine AnyO.StepP.mk rfl [11, 9] (by kernel_rfl) ?_
                  intro vs u hE hp ac hb K hK
                  have s135 : ac.tmps[135]?.getD undef = .slice A xs.length c := by rw [hb]; exact (show _ = vs 11 by kernel_rfl).trans (hp 11 (by decide))
                  have s133 : ac.tmps[133]?.getD undef = .bool true := by rw [hb]; exact (show _ = vs 9 by kernel_rfl).trans (hp 9 (by decide))
                  rw [if_pos (AnyO.wanted_some (g := 9) (t := 133) (want := true) rfl rfl s133)]
                  clear hb hp
                  go_simp
                  exact hK _ _ hE (fun _ _ _ h => h) rfl
                · -- 13: Op.binOp BinOp.gtr 3 (Operand.tmp 136) (Operand.const (Value
                  refine AnyO.StepP.mk rfl [12, 9] (by kernel_rfl) ?_
                  intro vs u hE hp ac hb K hK
                  have s136 : ac.tmps[136]?.getD undef = .int .i64 xs.length := by rw [hb]; exact (show _ = vs 12 by kernel_rfl).trans (hp 12 (by decide))
                  have s133 : ac.tmps[133]?.getD undef = .bool true := by rw [hb]; exact (show _ = vs 9 by kernel_rfl).trans (hp 9 (by decide))
                  rw [if_pos (AnyO.wanted_some (g := 9) (t := 133) (want := true) rfl rfl s133)]
                  clear hb hp
                  go_simp
                  first | exact hK _ _ hE (fun _ _ _ h => h) rfl | (rw [hgt]; exact hK _ _ hE (fun _ _ _ h => h) rfl) | (rw [hgt2]; exact hK _ _ hE (fun _ _ _ h => h) rfl)
                · -- 14: Op.binOp BinOp.eql 4 (Operand.tmp 134) (Operand.tmp 137) 4
                  refine AnyO.StepP.mk rfl [10, 13, 9] (by kernel_rfl) ?_
                  intro vs u hE hp ac hb K hK
                  have s134 : ac.tmps[134]?.getD undef = .bool true := by rw [hb]; exact (show _ = vs 10 by kernel_rfl).trans (hp 10 (by decide))
                  have s137 : ac.tmps[137]?.getD undef = .bool true := by rw [hb]; exact (show _ = vs 13 by kernel_rfl).trans (hp 13 (by decide))
                  have s133 : ac.tmps[133]?.getD undef = .bool true := by rw [hb]; exact (show _ = vs 9 by kernel_rfl).trans (hp 9 (by decide))
                  rw [if_pos (AnyO.wanted_some (g := 9) (t := 133) (want := true) rfl rfl s133)]
                  clear hb hp
                  go_simp
                  first | exact hK _ _ hE (fun _ _ _ h => h) rfl | (simp; exact hK _ _ hE (fun _ _ _ h => h) rfl)
                · -- 15: Op.pick (Operand.tmp 133) (Operand.tmp 138) (Operand.const (
                  refine AnyO.StepP.mk rfl [9, 14] (by kernel_rfl) ?_
                  intro vs u hE hp ac hb K hK
                  have s133 : ac.tmps[133]?.getD undef = .bool true := by rw [hb]; exact (show _ = vs 9 by kernel_rfl).trans (hp 9 (by decide))
                  have s138 : ac.tmps[138]?.getD undef = .bool true := by rw [hb]; exact (show _ = vs 14 by kernel_rfl).trans (hp 14 (by decide))
                  rw [if_pos (AnyO.wanted_none rfl)]
                  clear hb hp
                  go_simp
                  first | exact hK _ _ hE (fun _ _ _ h => h) rfl | (simp; exact hK _ _ hE (fun _ _ _ h => h) rfl)
                · -- 16: Op.move (Operand.tmp 139)
                  refine AnyO.StepP.mk rfl [15, 9] (by kernel_rfl) ?_
                  intro vs u hE hp ac hb K hK
                  have s139 : ac.tmps[139]?.getD undef = .bool true := by rw [hb]; exact (show _ = vs 15 by kernel_rfl).trans (hp 15 (by decide))
                  rw [if_pos (AnyO.wanted_none rfl)]
                  clear hb hp
                  go_simp
                  exact hK _ _ hE (fun _ _ _ h => h) rfl
                · -- 17: Op.move (Operand.tmp 14)
                  refine AnyO.StepP.mk rfl [16] (by kernel_rfl) ?_
                  intro vs u hE hp ac hb K hK
                  have s14 : ac.tmps[14]?.getD undef = .bool true := by rw [hb]; kernel_rfl
                  have s140 : ac.tmps[140]?.getD undef = .bool true := by rw [hb]; exact (show _ = vs 16 by kernel_rfl).trans (hp 16 (by decide))
                  rw [if_pos (AnyO.wanted_some (g := 16) (t := 140) (want := true) rfl rfl s140)]
                  clear hb hp
                  go_simp
                  exact hK _ _ hE (fun _ _ _ h => h) rfl
                · -- 18: Op.unOp UnOp.not 4 (Operand.tmp 141)
                  refine AnyO.StepP.mk rfl [17, 16] (by kernel_rfl) ?_
                  intro vs u hE hp ac hb K hK
                  have s141 : ac.tmps[141]?.getD undef = .bool true := by rw [hb]; exact (show _ = vs 17 by kernel_rfl).trans (hp 17 (by decide))
                  have s140 : ac.tmps[140]?.getD undef = .bool true := by rw [hb]; exact (show _ = vs 16 by kernel_rfl).trans (hp 16 (by decide))
                  rw [if_pos (AnyO.wanted_some (g := 16) (t := 140) (want := true) rfl rfl s140)]
                  clear hb hp
                  go_simp
                  exact hK _ _ hE (fun _ _ _ h => h) rfl
                · -- 19: Op.move (Operand.tmp 142)
                  refine AnyO.StepP.mk rfl [18, 16, 16] (by kernel_rfl) ?_
                  intro vs u hE hp ac hb K hK
                  have s142 : ac.tmps[142]?.getD undef = .bool false := by rw [hb]; exact (show _ = vs 18 by kernel_rfl).trans (hp 18 (by decide))
                  have s140 : ac.tmps[140]?.getD undef = .bool true := by rw [hb]; exact (show _ = vs 16 by kernel_rfl).trans (hp 16 (by decide))
                  rw [if_pos (AnyO.wanted_some (g := 16) (t := 140) (want := true) rfl rfl s140)]
                  clear hb hp
                  go_simp
                  exact hK _ _ hE (fun _ _ _ h => h) rfl
                · -- 20: Op.load 33 (Operand.tmp 13)
                  refine AnyO.StepP.mk rfl [19] (by kernel_rfl) ?_
                  intro vs u hE hp ac hb K hK
                  have s13 : ac.tmps[13]?.getD undef = .pointer (some ⟨b13, 0, none⟩) := by rw [hb]; kernel_rfl
                  have s143 : ac.tmps[143]?.getD undef = .bool false := by rw [hb]; exact (show _ = vs 19 by kernel_rfl).trans (hp 19 (by decide))
                  rw [if_pos (AnyO.wanted_some (g := 19) (t := 143) (want := false) rfl rfl s143)]
                  clear hb hp
                  have h1 := hE.2.1.ok
                  have h2 := hE.2.1.rd
                  rw [cI_length] at h1 h2
                  go_simp
                  exact hK _ _ hE (fun _ _ _ h => h) rfl
                · -- 21: Op.load 24 (Operand.tmp 5)
                  refine AnyO.StepP.mk rfl [19] (by kernel_rfl) ?_
                  intro vs u hE hp ac hb K hK
                  have s5 : ac.tmps[5]?.getD undef = .pointer (some ⟨b5, 0, none⟩) := by rw [hb]; kernel_rfl
                  have s143 : ac.tmps[143]?.getD undef = .bool false := by rw [hb]; exact (show _ = vs 19 by kernel_rfl).trans (hp 19 (by decide))
                  rw [if_pos (AnyO.wanted_some (g := 19) (t := 143) (want := false) rfl rfl s143)]
                  clear hb hp
                  have c5 := hE.1.m.c5
                  go_simp
                  exact hK _ _ hE (fun _ _ _ h => h) rfl
                · -- 22: Op.load 22 (Operand.tmp 2)
                  refine AnyO.StepP.mk rfl [19] (by kernel_rfl) ?_
                  intro vs u hE hp ac hb K hK
                  have s2 : ac.tmps[2]?.getD undef = .pointer (some ⟨w.heap.size, 0, none⟩) := by rw [hb]; kernel_rfl
                  have s143 : ac.tmps[143]?.getD undef = .bool false := by rw [hb]; exact (show _ = vs 19 by kernel_rfl).trans (hp 19 (by decide))
                  rw [if_pos (AnyO.wanted_some (g := 19) (t := 143) (want := false) rfl rfl s143)]
                  clear hb hp
                  have c2 := hE.1.m.e.c2
                  go_simp
                  exact hK _ _ hE (fun _ _ _ h => h) rfl
                · -- 23: Op.call { callee := Callee.builtin Builtin.len, args := #[Op
                  refine AnyO.StepP.mk rfl [22, 19] (by kernel_rfl) ?_
                  intro vs u hE hp ac hb K hK
                  have s146 : ac.tmps[146]?.getD undef = .slice A xs.length c := by rw [hb]; exact (show _ = vs 22 by kernel_rfl).trans (hp 22 (by decide))
                  have s143 : ac.tmps[143]?.getD undef = .bool false := by rw [hb]; exact (show _ = vs 19 by kernel_rfl).trans (hp 19 (by decide))
                  rw [if_pos (AnyO.wanted_some (g := 19) (t := 143) (want := false) rfl rfl s143)]
                  clear hb hp
                  go_simp
                  exact hK _ _ hE (fun _ _ _ h => h) rfl
                · -- 24: Op.binOp BinOp.sub 3 (Operand.tmp 147) (Operand.const (Value
                  refine AnyO.StepP.mk rfl [23, 19] (by kernel_rfl) ?_
                  intro vs u hE hp ac hb K hK
                  have s147 : ac.tmps[147]?.getD undef = .int .i64 xs.length := by rw [hb]; exact (show _ = vs 23 by kernel_rfl).trans (hp 23 (by decide))
                  have s143 : ac.tmps[143]?.getD undef = .bool false := by rw [hb]; exact (show _ = vs 19 by kernel_rfl).trans (hp 19 (by decide))
                  rw [if_pos (AnyO.wanted_some (g := 19) (t := 143) (want := false) rfl rfl s143)]
                  clear hb hp
                  have hl0 := HX.out.2.2
                  go_simp
                  first | (rw [IntWalk.i64_in _ (by omega)]; exact hK _ _ hE (fun _ _ _ h => h) rfl) | (rw [IntWalk.i64_in _ (by omega), hk1]; exact hK _ _ hE (fun _ _ _ h => h) rfl)
                · -- 25: Op.indexAddr 24 (Operand.tmp 145) (Operand.tmp 148)
                  refine AnyO.StepP.mk rfl [21, 24, 19] (by kernel_rfl) ?_
                  intro vs u hE hp ac hb K hK
                  have s145 : ac.tmps[145]?.getD undef = .slice (some ad2) xs.length d2 := by rw [hb]; exact (show _ = vs 21 by kernel_rfl).trans (hp 21 (by decide))
                  have s148 : ac.tmps[148]?.getD undef = .int .i64 (k : Int) := by rw [hb]; exact (show _ = vs 24 by kernel_rfl).trans (hp 24 (by decide))
                  have s143 : ac.tmps[143]?.getD undef = .bool false := by rw [hb]; exact (show _ = vs 19 by kernel_rfl).trans (hp 19 (by decide))
                  rw [if_pos (AnyO.wanted_some (g := 19) (t := 143) (want := false) rfl rfl s143)]
                  clear hb hp
                  have hi1 : (0 : Int) ≤ (k : Int) := by omega
                  have hi2 : (k : Int) < (xs.length : Int) := by omega
                  go_simp
                  exact hK _ _ hE (fun _ _ _ h => h) rfl
                · -- 26: Op.load 33 (Operand.tmp 149)
                  refine AnyO.StepP.mk rfl [25, 19] (by kernel_rfl) ?_
                  intro vs u hE hp ac hb K hK
                  have s149 : ac.tmps[149]?.getD undef = .pointer (some (ad2.add (k * 32))) := by rw [hb]; exact (show _ = vs 25 by kernel_rfl).trans (hp 25 (by decide))
                  have s143 : ac.tmps[143]?.getD undef = .bool false := by rw [hb]; exact (show _ = vs 19 by kernel_rfl).trans (hp 19 (by decide))
                  rw [if_pos (AnyO.wanted_some (g := 19) (t := 143) (want := false) rfl rfl s143)]
                  clear hb hp
                  obtain ⟨ad3, h0, h1, h2⟩ := Sl.rd hE.1.m.sl.sl hkl
                  obtain rfl : ad2 = ad3 := by injection h0
                  go_simp
                  exact hK _ _ hE (fun _ _ _ h => h) rfl
                · -- 27: Op.binOp BinOp.eql 33 (Operand.tmp 144) (Operand.tmp 150) 33
                  refine AnyO.StepP.mk rfl [20, 26, 19] (by kernel_rfl) ?_
                  intro vs u hE hp ac hb K hK
                  have s144 : ac.tmps[144]?.getD undef = vI xs[k] := by rw [hb]; exact (show _ = vs 20 by kernel_rfl).trans (hp 20 (by decide))
                  have s150 : ac.tmps[150]?.getD undef = vI xs[k] := by rw [hb]; exact (show _ = vs 26 by kernel_rfl).trans (hp 26 (by decide))
                  have s143 : ac.tmps[143]?.getD undef = .bool false := by rw [hb]; exact (show _ = vs 19 by kernel_rfl).trans (hp 19 (by decide))
                  rw [if_pos (AnyO.wanted_some (g := 19) (t := 143) (want := false) rfl rfl s143)]
                  clear hb hp
                  go_simp
                  first | exact hK _ _ hE (fun _ _ _ h => h) rfl | (simp; exact hK _ _ hE (fun _ _ _ h => h) rfl)
                · -- 28: Op.pick (Operand.tmp 143) (Operand.const (Value.bool true)) 
                  refine AnyO.StepP.mk rfl [19, 27, 16] (by kernel_rfl) ?_
                  intro vs u hE hp ac hb K hK
                  have s143 : ac.tmps[143]?.getD undef = .bool false := by rw [hb]; exact (show _ = vs 19 by kernel_rfl).trans (hp 19 (by decide))
                  have s151 : ac.tmps[151]?.getD undef = .bool true := by rw [hb]; exact (show _ = vs 27 by kernel_rfl).trans (hp 27 (by decide))
                  have s140 : ac.tmps[140]?.getD undef = .bool true := by rw [hb]; exact (show _ = vs 16 by kernel_rfl).trans (hp 16 (by decide))
                  rw [if_pos (AnyO.wanted_some (g := 16) (t := 140) (want := true) rfl rfl s140)]
                  clear hb hp
                  go_simp
                  first | exact hK _ _ hE (fun _ _ _ h => h) rfl | (simp; exact hK _ _ hE (fun _ _ _ h => h) rfl)
                · -- 29: Op.pick (Operand.tmp 140) (Operand.tmp 152) (Operand.const (
                  refine AnyO.StepP.mk rfl [16, 28] (by kernel_rfl) ?_
                  intro vs u hE hp ac hb K hK
                  have s140 : ac.tmps[140]?.getD undef = .bool true := by rw [hb]; exact (show _ = vs 16 by kernel_rfl).trans (hp 16 (by decide))
                  have s152 : ac.tmps[152]?.getD undef = .bool true := by rw [hb]; exact (show _ = vs 28 by kernel_rfl).trans (hp 28 (by decide))
                  rw [if_pos (AnyO.wanted_none rfl)]
                  clear hb hp
                  go_simp
                  first | exact hK _ _ hE (fun _ _ _ h => h) rfl | (simp; exact hK _ _ hE (fun _ _ _ h => h) rfl)
                · -- 30: Op.move (Operand.tmp 153)
                  refine AnyO.StepP.mk rfl [29, 19] (by kernel_rfl) ?_
                  intro vs u hE hp ac hb K hK
                  have s153 : ac.tmps[153]?.getD undef = .bool true := by rw [hb]; exact (show _ = vs 29 by kernel_rfl).trans (hp 29 (by decide))
                  rw [if_pos (AnyO.wanted_none rfl)]
                  clear hb hp
                  go_simp
                  exact hK _ _ hE (fun _ _ _ h => h) rfl
                · -- 31: Op.move (Operand.tmp 16)
                  refine AnyO.StepP.mk rfl [30] (by kernel_rfl) ?_
                  intro vs u hE hp ac hb K hK
                  have s16 : ac.tmps[16]?.getD undef = .int .i64 xs.length := by rw [hb]; kernel_rfl
                  have s154 : ac.tmps[154]?.getD undef = .bool true := by rw [hb]; exact (show _ = vs 30 by kernel_rfl).trans (hp 30 (by decide))
                  rw [if_pos (AnyO.wanted_some (g := 30) (t := 154) (want := true) rfl rfl s154)]
                  clear hb hp
                  go_simp
                  exact hK _ _ hE (fun _ _ _ h => h) rfl
                · -- 32: Op.load 22 (Operand.tmp 2)
                  refine AnyO.StepP.mk rfl [30] (by kernel_rfl) ?_
                  intro vs u hE hp ac hb K hK
                  have s2 : ac.tmps[2]?.getD undef = .pointer (some ⟨w.heap.size, 0, none⟩) := by rw [hb]; kernel_rfl
                  have s154 : ac.tmps[154]?.getD undef = .bool true := by rw [hb]; exact (show _ = vs 30 by kernel_rfl).trans (hp 30 (by decide))
                  rw [if_pos (AnyO.wanted_some (g := 30) (t := 154) (want := true) rfl rfl s154)]
                  clear hb hp
                  have c2 := hE.1.m.e.c2
                  go_simp
                  exact hK _ _ hE (fun _ _ _ h => h) rfl
                · -- 33: Op.call { callee := Callee.builtin Builtin.len, args := #[Op
                  refine AnyO.StepP.mk rfl [32, 30] (by kernel_rfl) ?_
                  intro vs u hE hp ac hb K hK
                  have s156 : ac.tmps[156]?.getD undef = .slice A xs.length c := by rw [hb]; exact (show _ = vs 32 by kernel_rfl).trans (hp 32 (by decide))
                  have s154 : ac.tmps[154]?.getD undef = .bool true := by rw [hb]; exact (show _ = vs 30 by kernel_rfl).trans (hp 30 (by decide))
                  rw [if_pos (AnyO.wanted_some (g := 30) (t := 154) (want := true) rfl rfl s154)]
                  clear hb hp
                  go_simp
                  exact hK _ _ hE (fun _ _ _ h => h) rfl
                · -- 34: Op.binOp BinOp.eql 3 (Operand.tmp 155) (Operand.tmp 157) 3
                  refine AnyO.StepP.mk rfl [31, 33, 30] (by kernel_rfl) ?_
                  intro vs u hE hp ac hb K hK
                  have s155 : ac.tmps[155]?.getD undef = .int .i64 xs.length := by rw [hb]; exact (show _ = vs 31 by kernel_rfl).trans (hp 31 (by decide))
                  have s157 : ac.tmps[157]?.getD undef = .int .i64 xs.length := by rw [hb]; exact (show _ = vs 33 by kernel_rfl).trans (hp 33 (by decide))
                  have s154 : ac.tmps[154]?.getD undef = .bool true := by rw [hb]; exact (show _ = vs 30 by kernel_rfl).trans (hp 30 (by decide))
                  rw [if_pos (AnyO.wanted_some (g := 30) (t := 154) (want := true) rfl rfl s154)]
                  clear hb hp
                  go_simp
                  first | exact hK _ _ hE (fun _ _ _ h => h) rfl | (simp; exact hK _ _ hE (fun _ _ _ h => h) rfl)
                · -- 35: Op.pick (Operand.tmp 154) (Operand.tmp 158) (Operand.const (
                  refine AnyO.StepP.mk rfl [30, 34] (by kernel_rfl) ?_
                  intro vs u hE hp ac hb K hK
                  have s154 : ac.tmps[154]?.getD undef = .bool true := by rw [hb]; exact (show _ = vs 30 by kernel_rfl).trans (hp 30 (by decide))
                  have s158 : ac.tmps[158]?.getD undef = .bool true := by rw [hb]; exact (show _ = vs 34 by kernel_rfl).trans (hp 34 (by decide))
                  rw [if_pos (AnyO.wanted_none rfl)]
                  clear hb hp
                  go_simp
                  first | exact hK _ _ hE (fun _ _ _ h => h) rfl | (simp; exact hK _ _ hE (fun _ _ _ h => h) rfl)
                · -- 36: Op.move (Operand.tmp 159)
                  refine AnyO.StepP.mk rfl [35, 30] (by kernel_rfl) ?_
                  intro vs u hE hp ac hb K hK
                  have s159 : ac.tmps[159]?.getD undef = .bool true := by rw [hb]; exact (show _ = vs 35 by kernel_rfl).trans (hp 35 (by decide))
                  rw [if_pos (AnyO.wanted_none rfl)]
                  clear hb hp
                  go_simp
                  exact hK _ _ hE (fun _ _ _ h => h) rfl
                · -- 37: Op.move (Operand.tmp 17)
                  refine AnyO.StepP.mk rfl [36] (by kernel_rfl) ?_
                  intro vs u hE hp ac hb K hK
                  have s17 : ac.tmps[17]?.getD undef = .bool false := by rw [hb]; kernel_rfl
                  have s160 : ac.tmps[160]?.getD undef = .bool true := by rw [hb]; exact (show _ = vs 36 by kernel_rfl).trans (hp 36 (by decide))
                  rw [if_pos (AnyO.wanted_some (g := 36) (t := 160) (want := true) rfl rfl s160)]
                  clear hb hp
                  go_simp
                  exact hK _ _ hE (fun _ _ _ h => h) rfl
                · -- 38: Op.unOp UnOp.not 4 (Operand.tmp 161)
                  refine AnyO.StepP.mk rfl [37, 36] (by kernel_rfl) ?_
                  intro vs u hE hp ac hb K hK
                  have s161 : ac.tmps[161]?.getD undef = .bool false := by rw [hb]; exact (show _ = vs 37 by kernel_rfl).trans (hp 37 (by decide))
                  have s160 : ac.tmps[160]?.getD undef = .bool true := by rw [hb]; exact (show _ = vs 36 by kernel_rfl).trans (hp 36 (by decide))
                  rw [if_pos (AnyO.wanted_some (g := 36) (t := 160) (want := true) rfl rfl s160)]
                  clear hb hp
                  go_simp
                  first | exact hK _ _ hE (fun _ _ _ h => h) rfl | (simp; exact hK _ _ hE (fun _ _ _ h => h) rfl)
                · -- 39: Op.pick (Operand.tmp 160) (Operand.tmp 162) (Operand.const (
                  refine AnyO.StepP.mk rfl [36, 38] (by kernel_rfl) ?_
                  intro vs u hE hp ac hb K hK
                  have s160 : ac.tmps[160]?.getD undef = .bool true := by rw [hb]; exact (show _ = vs 36 by kernel_rfl).trans (hp 36 (by decide))
                  have s162 : ac.tmps[162]?.getD undef = .bool true := by rw [hb]; exact (show _ = vs 38 by kernel_rfl).trans (hp 38 (by decide))
                  rw [if_pos (AnyO.wanted_none rfl)]
                  clear hb hp
                  go_simp
                  first | exact hK _ _ hE (fun _ _ _ h => h) rfl | (simp; exact hK _ _ hE (fun _ _ _ h => h) rfl)
              · intro vs u hE hp
                have e0 : vs 0 = .int .i64 (n : Int) := hp 0 (by decide)
                have e1 : vs 1 = .slice A xs.length c := hp 1 (by decide)
                have e2 : vs 2 = .int .i64 xs.length := hp 2 (by decide)
                have e3 : vs 3 = .bool false := hp 3 (by decide)
                have e4 : vs 4 = .bool false := hp 4 (by decide)
                have e5 : vs 5 = .int .i64 (n : Int) := hp 5 (by decide)
                have e6 : vs 6 = .int .i64 (n : Int) := hp 6 (by decide)
                have e7 : vs 7 = .bool true := hp 7 (by decide)
                have e8 : vs 8 = .bool true := hp 8 (by decide)
                have e9 : vs 9 = .bool true := hp 9 (by decide)
                have e10 : vs 10 = .bool true := hp 10 (by decide)
                have e11 : vs 11 = .slice A xs.length c := hp 11 (by decide)
                have e12 : vs 12 = .int .i64 xs.length := hp 12 (by decide)
                have e13 : vs 13 = .bool true := hp 13 (by decide)
                have e14 : vs 14 = .bool true := hp 14 (by decide)
                have e15 : vs 15 = .bool true := hp 15 (by decide)
                have e16 : vs 16 = .bool true := hp 16 (by decide)
                have e17 : vs 17 = .bool true := hp 17 (by decide)
                have e18 : vs 18 = .bool false := hp 18 (by decide)
                have e19 : vs 19 = .bool false := hp 19 (by decide)
                have e20 : vs 20 = vI xs[k] := hp 20 (by decide)
                have e21 : vs 21 = .slice (some ad2) xs.length d2 := hp 21 (by decide)
                have e22 : vs 22 = .slice A xs.length c := hp 22 (by decide)
                have e23 : vs 23 = .int .i64 xs.length := hp 23 (by decide)
                have e24 : vs 24 = .int .i64 (k : Int) := hp 24 (by decide)
                have e25 : vs 25 = .pointer (some (ad2.add (k * 32))) := hp 25 (by decide)
                have e26 : vs 26 = vI xs[k] := hp 26 (by decide)
                have e27 : vs 27 = .bool true := hp 27 (by decide)
                have e28 : vs 28 = .bool true := hp 28 (by decide)
                have e29 : vs 29 = .bool true := hp 29 (by decide)
                have e30 : vs 30 = .bool true := hp 30 (by decide)
                have e31 : vs 31 = .int .i64 xs.length := hp 31 (by decide)
                have e32 : vs 32 = .slice A xs.length c := hp 32 (by decide)
                have e33 : vs 33 = .int .i64 xs.length := hp 33 (by decide)
                have e34 : vs 34 = .bool true := hp 34 (by decide)
                have e35 : vs 35 = .bool true := hp 35 (by decide)
                have e36 : vs 36 = .bool true := hp 36 (by decide)
                have e37 : vs 37 = .bool false := hp 37 (by decide)
                have e38 : vs 38 = .bool true := hp 38 (by decide)
                have e39 : vs 39 = .bool true := hp 39 (by decide)
                clear hp
                rw [puts_range [some 124, some 125, some 126, some 127, some 128, some 129, some 130, some 131, some 132, some 133, some 134, some 135, some 136, some 137, some 138, some 139, some 140, some 141, some 142, some 143, some 144, some 145, some 146, some 147, some 148, some 149, some 150, some 151, some 152, some 153, some 154, some 155, some 156, some 157, some 158, some 159, some 160, some 161, some 162, some 163] (by kernel_rfl)]
                simp only [putL, Nat.reduceAdd, List.drop_succ_cons, List.drop_zero, e0, e1, e2, e3, e4, e5, e6, e7, e8, e9, e10, e11, e12, e13, e14, e15, e16, e17, e18, e19, e20, e21, e22, e23, e24, e25, e26, e27, e28, e29, e30, e31, e32, e33, e34, e35, e36, e37, e38, e39]
                clear e0 e1 e2 e3 e4 e5 e6 e7 e8 e9 e10 e11 e12 e13 e14 e15 e16 e17 e18 e19 e20 e21 e22 e23 e24 e25 e26 e27 e28 e29 e30 e31 e32 e33 e34 e35 e36 e37 e38 e39
                go_simp
                have c4 := hE.1.m.e.c4
                have f4 := hE.1.m.e.f4
                have hKu : u.heap[D]? = some (.deferred (some [])) := (hE.2.2.block D (Array.getElem?_eq_some_iff.1 HW.out.2.2).1).trans HW.out.2.2
                have k4 : (u.setCell ⟨w.heap.size + 1 + 1, 0, none⟩ (.bool true)).cell? ⟨w.heap.size + 1 + 1, 0, none⟩ = some (.bool true) := World.cell?_setCell_same' _ _ _ (by rw [c4]; rfl)
                have hKs : (u.setCell ⟨w.heap.size + 1 + 1, 0, none⟩ (.bool true)).heap[D]? = some (.deferred (some [])) := (KeepsOthers.setCell _ _ _).same _ _ hKu rfl
                have k5 := cell_kept k4 (grownBy_putObj' _ D (.deferred none)) (fun r e => by cases e; exact ⟨_, hKs, rfl⟩)
                have hbl : Below w.heap.size w (u.setCell ⟨w.heap.size + 1 + 1, 0, none⟩ (.bool true)) := hE.1.m.e.bl.setCell (p := ⟨w.heap.size + 1 + 1, 0, none⟩) (by dsimp only; omega) _
                have HS := Lib.hid (And.intro hKs (And.intro k5 hbl))
                clear hKu hKs k4 k5 hbl
                gi_wp2
                refine wp_ret ?_
                obtain ⟨hKs, k5, hbl⟩ := HS.out
                refine ⟨by simp, .inl ⟨_, _, rfl, run_takeDeferred hKs, ?_⟩⟩
                exact ⟨_, results_c1 (ad := ⟨w.heap.size + 1 + 1, 0, none⟩) rfl rfl (by simp [go_sem, k5]), rfl, hbl.trans (belowK_b (w := w) (Nat.le_refl _) _ D _ _ (by omega) hKs rfl rfl)⟩
          | false =>
            have hl0 : xs.length = 0 := by have := of_decide_eq_false hp0; omega
            obtain rfl : zI = y0 := by rw [← hy0, List.eq_nil_of_length_eq_zero hl0]; rfl
            have hgt : decide ((0 : Int) < (xs.length : Int)) = false := decide_eq_false (by omega)
            have h0p : ¬ (0 : Int) < (xs.length : Int) := by omega
            have hgt2 : decide (0 < xs.length) = false := decide_eq_false (by omega)
            have HW := Lib.hid (And.intro hG9 (And.intro hat13 hK9))
            have HL := Lib.hid hl0
            clear hG9 hat13 hK9 hy0 hp0 hl0
            by_cases hnl : n = xs.length
            · subst hnl
              clear hn
              refine AnyO.wpIn_any_tailP (.inl rfl) 40 (by kernel_rfl) (by kernel_rfl) (by kernel_rfl) (by kernel_rfl) (by kernel_rfl) (by kernel_rfl) (fun u => G4 w A c stop xs b5 b6 wc.heap.size A2 d2 x xs.length u ∧ At u ⟨b13, 0, none⟩ (cI zI) ∧ Below W9.heap.size W9 u) (pstP [isV (.int .i64 (xs.length : Int)), isV (.slice A xs.length c), isV (.int .i64 xs.length), isV (.bool true), isV (.bool true), isV (undef), isV (undef), isV (undef), isV (.bool true), isV (.bool true), isV (.bool false), isV (.slice A xs.length c), isV (.int .i64 xs.length), isV (.bool false), isV (.bool true), isV (.bool true), isV (.bool true), isV (.bool false), isV (.bool true), isV (.bool true), isV (undef), isV (undef), isV (undef), isV (undef), isV (undef), isV (undef), isV (undef), isV (undef), isV (.bool true), isV (.bool true), isV (.bool true), isV (.int .i64 xs.length), isV (.slice A xs.length c), isV (.int .i64 xs.length), isV (.bool true), isV (.bool true), isV (.bool true), isV (.bool false), isV (.bool true), isV (.bool true)]) (⟨HW.out.1.keep (below_drew _), HW.out.2.1.keep (below_drew _), below_drew _⟩) ?_ ?_
              · intro i hi
                have hi2 : i = 0 ∨ i = 1 ∨ i = 2 ∨ i = 3 ∨ i = 4 ∨ i = 5 ∨ i = 6 ∨ i = 7 ∨ i = 8 ∨ i = 9 ∨ i = 10 ∨ i = 11 ∨ i = 12 ∨ i = 13 ∨ i = 14 ∨ i = 15 ∨ i = 16 ∨ i = 17 ∨ i = 18 ∨ i = 19 ∨ i = 20 ∨ i = 21 ∨ i = 22 ∨ i = 23 ∨ i = 24 ∨ i = 25 ∨ i = 26 ∨ i = 27 ∨ i = 28 ∨ i = 29 ∨ i = 30 ∨ i = 31 ∨ i = 32 ∨ i = 33 ∨ i = 34 ∨ i = 35 ∨ i = 36 ∨ i = 37 ∨ i = 38 ∨ i = 39 := by omega
                clear hi
                rcases hi2 with rfl | rfl | rfl | rfl | rfl | rfl | rfl | rfl | rfl | rfl | rfl | rfl | rfl | rfl | rfl | rfl | rfl | rfl | rfl | rfl | rfl | rfl | rfl | rfl | rfl | rfl | rfl | rfl | rfl | rfl | rfl | rfl | rfl | rfl | rfl | rfl | rfl | rfl | rfl | rfl
                · -- 0: Op.load 3 (Operand.tmp 10)
                  refine AnyO.StepP.mk rfl [] (by kernel_rfl) ?_
                  intro vs u hE hp ac hb K hK
                  have s10 : ac.tmps[10]?.getD undef = .pointer (some ⟨wc.heap.size, 0, none⟩) := by rw [hb]; kernel_rfl
                  rw [if_pos (AnyO.wanted_none rfl)]
                  clear hb hp
                  have c10 := hE.1.c10
                  go_simp
                  exact hK _ _ hE (fun _ _ _ h => h) rfl
                · -- 1: Op.load 22 (Operand.tmp 2)
                  refine AnyO.StepP.mk rfl [] (by kernel_rfl) ?_
                  intro vs u hE hp ac hb K hK
                  have s2 : ac.tmps[2]?.getD undef = .pointer (some ⟨w.heap.size, 0, none⟩) := by rw [hb]; kernel_rfl
                  rw [if_pos (AnyO.wanted_none rfl)]
                  clear hb hp
                  have c2 := hE.1.m.e.c2
                  go_simp
                  exact hK _ _ hE (fun _ _ _ h => h) rfl
                · -- 2: Op.call { callee := Callee.builtin Builtin.len, args := #[Op
                  refine AnyO.StepP.mk rfl [1] (by kernel_rfl) ?_
                  intro vs u hE hp ac hb K hK
                  have s125 : ac.tmps[125]?.getD undef = .slice A xs.length c := by rw [hb]; exact (show _ = vs 1 by kernel_rfl).trans (hp 1 (by decide))
                  rw [if_pos (AnyO.wanted_none rfl)]
                  clear hb hp
                  go_simp
                  exact hK _ _ hE (fun _ _ _ h => h) rfl
                · -- 3: Op.binOp BinOp.eql 3 (Operand.tmp 124) (Operand.tmp 126) 3
                  refine AnyO.StepP.mk rfl [0, 2] (by kernel_rfl) ?_
                  intro vs u hE hp ac hb K hK
                  have s124 : ac.tmps[124]?.getD undef = .int .i64 (xs.length : Int) := by rw [hb]; exact (show _ = vs 0 by kernel_rfl).trans (hp 0 (by decide))
                  have s126 : ac.tmps[126]?.getD undef = .int .i64 xs.length := by rw [hb]; exact (show _ = vs 2 by kernel_rfl).trans (hp 2 (by decide))
                  rw [if_pos (AnyO.wanted_none rfl)]
                  clear hb hp
                  go_simp
                  first | exact hK _ _ hE (fun _ _ _ h => h) rfl | (simp; exact hK _ _ hE (fun _ _ _ h => h) rfl)
                · -- 4: Op.move (Operand.tmp 127)
                  refine AnyO.StepP.mk rfl [3] (by kernel_rfl) ?_
                  intro vs u hE hp ac hb K hK
                  have s127 : ac.tmps[127]?.getD undef = .bool true := by rw [hb]; exact (show _ = vs 3 by kernel_rfl).trans (hp 3 (by decide))
                  rw [if_pos (AnyO.wanted_none rfl)]
                  clear hb hp
                  go_simp
                  exact hK _ _ hE (fun _ _ _ h => h) rfl
                · -- 5: Op.load 3 (Operand.tmp 10)
                  refine AnyO.StepP.mk rfl [4] (by kernel_rfl) ?_
                  intro vs u hE hp ac hb K hK
                  have s128 : ac.tmps[128]?.getD undef = .bool true := by rw [hb]; exact (show _ = vs 4 by kernel_rfl).trans (hp 4 (by decide))
                  rw [if_neg (AnyO.wanted_no (g := 4) (t := 128) (want := false) rfl rfl s128)]
                  clear hb hp
                  exact hK _ _ hE (fun _ _ _ h => h) rfl
                · -- 6: Op.load 3 (Operand.tmp 3)
                  refine AnyO.StepP.mk rfl [4] (by kernel_rfl) ?_
                  intro vs u hE hp ac hb K hK
                  have s128 : ac.tmps[128]?.getD undef = .bool true := by rw [hb]; exact (show _ = vs 4 by kernel_rfl).trans (hp 4 (by decide))
                  rw [if_neg (AnyO.wanted_no (g := 4) (t := 128) (want := false) rfl rfl s128)]
                  clear hb hp
                  exact hK _ _ hE (fun _ _ _ h => h) rfl
                · -- 7: Op.binOp BinOp.eql 3 (Operand.tmp 129) (Operand.tmp 130) 3
                  refine AnyO.StepP.mk rfl [5, 6, 4] (by kernel_rfl) ?_
                  intro vs u hE hp ac hb K hK
                  have s128 : ac.tmps[128]?.getD undef = .bool true := by rw [hb]; exact (show _ = vs 4 by kernel_rfl).trans (hp 4 (by decide))
                  rw [if_neg (AnyO.wanted_no (g := 4) (t := 128) (want := false) rfl rfl s128)]
                  clear hb hp
                  exact hK _ _ hE (fun _ _ _ h => h) rfl
                · -- 8: Op.pick (Operand.tmp 128) (Operand.const (Value.bool true)) 
                  refine AnyO.StepP.mk rfl [4, 7] (by kernel_rfl) ?_
                  intro vs u hE hp ac hb K hK
                  have s128 : ac.tmps[128]?.getD undef = .bool true := by rw [hb]; exact (show _ = vs 4 by kernel_rfl).trans (hp 4 (by decide))
                  have s131 : ac.tmps[131]?.getD undef = undef := by rw [hb]; exact (show _ = vs 7 by kernel_rfl).trans (hp 7 (by decide))
                  rw [if_pos (AnyO.wanted_none rfl)]
                  clear hb hp
                  go_simp
                  first | exact hK _ _ hE (fun _ _ _ h => h) rfl | (simp; exact hK _ _ hE (fun _ _ _ h => h) rfl)
                · -- 9: Op.move (Operand.tmp 132)
                  refine AnyO.StepP.mk rfl [8, 4] (by kernel_rfl) ?_
                  intro vs u hE hp ac hb K hK
                  have s132 : ac.tmps[132]?.getD undef = .bool true := by rw [hb]; exact (show _ = vs 8 by kernel_rfl).trans (hp 8 (by decide))
                  rw [if_pos (AnyO.wanted_none rfl)]
                  clear hb hp
                  go_simp
                  exact hK _ _ hE (fun _ _ _ h => h) rfl
                · -- 10: Op.move (Operand.tmp 14)
                  refine AnyO.StepP.mk rfl [9] (by kernel_rfl) ?_
                  intro vs u hE hp ac hb K hK
                  have s14 : ac.tmps[14]?.getD undef = .bool false := by rw [hb]; kernel_rfl
                  have s133 : ac.tmps[133]?.getD undef = .bool true := by rw [hb]; exact (show _ = vs 9 by kernel_rfl).trans (hp 9 (by decide))
                  rw [if_pos (AnyO.wanted_some (g := 9) (t := 133) (want := true) rfl rfl s133)]
                  clear hb hp
                  go_simp
                  exact hK _ _ hE (fun _ _ _ h => h) rfl
                · -- 11: Op.load 22 (Operand.tmp 2)
                  refine AnyO.StepP.mk rfl [9] (by kernel_rfl) ?_
                  intro vs u hE hp ac hb K hK
                  have s2 : ac.tmps[2]?.getD undef = .pointer (some ⟨w.heap.size, 0, none⟩) := by rw [hb]; kernel_rfl
                  have s133 : ac.tmps[133]?.getD undef = .bool true := by rw [hb]; exact (show _ = vs 9 by kernel_rfl).trans (hp 9 (by decide))
                  rw [if_pos (AnyO.wanted_some (g := 9) (t := 133) (want := true) rfl rfl s133)]
                  clear hb hp
                  have c2 := hE.1.m.e.c2
                  go_simp
                  exact hK _ _ hE (fun _ _ _ h => h) rfl
                · -- 12: Op.call { callee := Callee.builtin Builtin.len, args := #[Op
                  refine AnyO.StepP.mk rfl [11, 9] (by kernel_rfl) ?_
                  intro vs u hE hp ac hb K hK
                  have s135 : ac.tmps[135]?.getD undef = .slice A xs.length c := by rw [hb]; exact (show _ = vs 11 by kernel_rfl).trans (hp 11 (by decide))
                  have s133 : ac.tmps[133]?.getD undef = .bool true := by rw [hb]; exact (show _ = vs 9 by kernel_rfl).trans (hp 9 (by decide))
                  rw [if_pos (AnyO.wanted_some (g := 9) (t := 133) (want := true) rfl rfl s133)]
                  clear hb hp
                  go_simp
                  exact hK _ _ hE (fun _ _ _ h => h) rfl
                · -- 13: Op.binOp BinOp.gtr 3 (Operand.tmp 136) (Operand.const (Value
                  refine AnyO.StepP.mk rfl [12, 9] (by kernel_rfl) ?_
                  intro vs u hE hp ac hb K hK
                  have s136 : ac.tmps[136]?.getD undef = .int .i64 xs.length := by rw [hb]; exact (show _ = vs 12 by kernel_rfl).trans (hp 12 (by decide))
                  have s133 : ac.tmps[133]?.getD undef = .bool true := by rw [hb]; exact (show _ = vs 9 by kernel_rfl).trans (hp 9 (by decide))
                  rw [if_pos (AnyO.wanted_some (g := 9) (t := 133) (want := true) rfl rfl s133)]
                  clear hb hp
                  go_simp
                  first | exact hK _ _ hE (fun _ _ _ h => h) rfl | (rw [hgt]; exact hK _ _ hE (fun _ _ _ h => h) rfl) | (rw [hgt2]; exact hK _ _ hE (fun _ _ _ h => h) rfl)
                · -- 14: Op.binOp BinOp.eql 4 (Operand.tmp 134) (Operand.tmp 137) 4
                  refine AnyO.StepP.mk rfl [10, 13, 9] (by kernel_rfl) ?_
                  intro vs u hE hp ac hb K hK
                  have s134 : ac.tmps[134]?.getD undef = .bool false := by rw [hb]; exact (show _ = vs 10 by kernel_rfl).trans (hp 10 (by decide))
                  have s137 : ac.tmps[137]?.getD undef = .bool false := by rw [hb]; exact (show _ = vs 13 by kernel_rfl).trans (hp 13 (by decide))
                  have s133 : ac.tmps[133]?.getD undef = .bool true := by rw [hb]; exact (show _ = vs 9 by kernel_rfl).trans (hp 9 (by decide))
                  rw [if_pos (AnyO.wanted_some (g := 9) (t := 133) (want := true) rfl rfl s133)]
                  clear hb hp
                  go_simp
                  first | exact hK _ _ hE (fun _ _ _ h => h) rfl | (simp; exact hK _ _ hE (fun _ _ _ h => h) rfl)
                · -- 15: Op.pick (Operand.tmp 133) (Operand.tmp 138) (Operand.const (
                  refine AnyO.StepP.mk rfl [9, 14] (by kernel_rfl) ?_
                  intro vs u hE hp ac hb K hK
                  have s133 : ac.tmps[133]?.getD undef = .bool true := by rw [hb]; exact (show _ = vs 9 by kernel_rfl).trans (hp 9 (by decide))
                  have s138 : ac.tmps[138]?.getD undef = .bool true := by rw [hb]; exact (show _ = vs 14 by kernel_rfl).trans (hp 14 (by decide))
                  rw [if_pos (AnyO.wanted_none rfl)]
                  clear hb hp
                  go_simp
                  first | exact hK _ _ hE (fun _ _ _ h => h) rfl | (simp; exact hK _ _ hE (fun _ _ _ h => h) rfl)
                · -- 16: Op.move (Operand.tmp 139)
                  refine AnyO.StepP.mk rfl [15, 9] (by kernel_rfl) ?_
                  intro vs u hE hp ac hb K hK
                  have s139 : ac.tmps[139]?.getD undef = .bool true := by rw [hb]; exact (show _ = vs 15 by kernel_rfl).trans (hp 15 (by decide))
                  rw [if_pos (AnyO.wanted_none rfl)]
                  clear hb hp
                  go_simp
                  exact hK _ _ hE (fun _ _ _ h => h) rfl
                · -- 17: Op.move (Operand.tmp 14)
                  refine AnyO.StepP.mk rfl [16] (by kernel_rfl) ?_
                  intro vs u hE hp ac hb K hK
                  have s14 : ac.tmps[14]?.getD undef = .bool false := by rw [hb]; kernel_rfl
                  have s140 : ac.tmps[140]?.getD undef = .bool true := by rw [hb]; exact (show _ = vs 16 by kernel_rfl).trans (hp 16 (by decide))
                  rw [if_pos (AnyO.wanted_some (g := 16) (t := 140) (want := true) rfl rfl s140)]
                  clear hb hp
                  go_simp
                  exact hK _ _ hE (fun _ _ _ h => h) rfl
                · -- 18: Op.unOp UnOp.not 4 (Operand.tmp 141)
                  refine AnyO.StepP.mk rfl [17, 16] (by kernel_rfl) ?_
                  intro vs u hE hp ac hb K hK
                  have s141 : ac.tmps[141]?.getD undef = .bool false := by rw [hb]; exact (show _ = vs 17 by kernel_rfl).trans (hp 17 (by decide))
                  have s140 : ac.tmps[140]?.getD undef = .bool true := by rw [hb]; exact (show _ = vs 16 by kernel_rfl).trans (hp 16 (by decide))
                  rw [if_pos (AnyO.wanted_some (g := 16) (t := 140) (want := true) rfl rfl s140)]
                  clear hb hp
                  go_simp
                  exact hK _ _ hE (fun _ _ _ h => h) rfl
                · -- 19: Op.move (Operand.tmp 142)
                  refine AnyO.StepP.mk rfl [18, 16, 16] (by kernel_rfl) ?_
                  intro vs u hE hp ac hb K hK
                  have s142 : ac.tmps[142]?.getD undef = .bool true := by rw [hb]; exact (show _ = vs 18 by kernel_rfl).trans (hp 18 (by decide))
                  have s140 : ac.tmps[140]?.getD undef = .bool true := by rw [hb]; exact (show _ = vs 16 by kernel_rfl).trans (hp 16 (by decide))
                  rw [if_pos (AnyO.wanted_some (g := 16) (t := 140) (want := true) rfl rfl s140)]
                  clear hb hp
                  go_simp
                  exact hK _ _ hE (fun _ _ _ h => h) rfl
                · -- 20: Op.load 33 (Operand.tmp 13)
                  refine AnyO.StepP.mk rfl [19] (by kernel_rfl) ?_
                  intro vs u hE hp ac hb K hK
                  have s143 : ac.tmps[143]?.getD undef = .bool true := by rw [hb]; exact (show _ = vs 19 by kernel_rfl).trans (hp 19 (by decide))
                  rw [if_neg (AnyO.wanted_no (g := 19) (t := 143) (want := false) rfl rfl s143)]
                  clear hb hp
                  exact hK _ _ hE (fun _ _ _ h => h) rfl
                · -- 21: Op.load 24 (Operand.tmp 5)
                  refine AnyO.StepP.mk rfl [19] (by kernel_rfl) ?_
                  intro vs u hE hp ac hb K hK
                  have s143 : ac.tmps[143]?.getD undef = .bool true := by rw [hb]; exact (show _ = vs 19 by kernel_rfl).trans (hp 19 (by decide))
                  rw [if_neg (AnyO.wanted_no (g := 19) (t := 143) (want := false) rfl rfl s143)]
                  clear hb hp
                  exact hK _ _ hE (fun _ _ _ h => h) rfl
                · -- 22: Op.load 22 (Operand.tmp 2)
                  refine AnyO.StepP.mk rfl [19] (by kernel_rfl) ?_
                  intro vs u hE hp ac hb K hK
                  have s143 : ac.tmps[143]?.getD undef = .bool true := by rw [hb]; exact (show _ = vs 19 by kernel_rfl).trans (hp 19 (by decide))
                  rw [if_neg (AnyO.wanted_no (g := 19) (t := 143) (want := false) rfl rfl s143)]
                  clear hb hp
                  exact hK _ _ hE (fun _ _ _ h => h) rfl
                · -- 23: Op.call { callee := Callee.builtin Builtin.len, args := #[Op
                  refine AnyO.StepP.mk rfl [22, 19] (by kernel_rfl) ?_
                  intro vs u hE hp ac hb K hK
                  have s143 : ac.tmps[143]?.getD undef = .bool true := by rw [hb]; exact (show _ = vs 19 by kernel_rfl).trans (hp 19 (by decide))
                  rw [if_neg (AnyO.wanted_no (g := 19) (t := 143) (want := false) rfl rfl s143)]
                  clear hb hp
                  exact hK _ _ hE (fun _ _ _ h => h) rfl
                · -- 24: Op.binOp BinOp.sub 3 (Operand.tmp 147) (Operand.const (Value
                  refine AnyO.StepP.mk rfl [23, 19] (by kernel_rfl) ?_
                  intro vs u hE hp ac hb K hK
                  have s143 : ac.tmps[143]?.getD undef = .bool true := by rw [hb]; exact (show _ = vs 19 by kernel_rfl).trans (hp 19 (by decide))
                  rw [if_neg (AnyO.wanted_no (g := 19) (t := 143) (want := false) rfl rfl s143)]
                  clear hb hp
                  exact hK _ _ hE (fun _ _ _ h => h) rfl
                · -- 25: Op.indexAddr 24 (Operand.tmp 145) (Operand.tmp 148)
                  refine AnyO.StepP.mk rfl [21, 24, 19] (by kernel_rfl) ?_
                  intro vs u hE hp ac hb K hK
                  have s143 : ac.tmps[143]?.getD undef = .bool true := by rw [hb]; exact (show _ = vs 19 by kernel_rfl).trans (hp 19 (by decide))
                  rw [if_neg (AnyO.wanted_no (g := 19) (t := 143) (want := false) rfl rfl s143)]
                  clear hb hp
                  exact hK _ _ hE (fun _ _ _ h => h) rfl
                · -- 26: Op.load 33 (Operand.tmp 149)
                  refine AnyO.StepP.mk rfl [25, 19] (by kernel_rfl) ?_
                  intro vs u hE hp ac hb K hK
                  have s143 : ac.tmps[143]?.getD undef = .bool true := by rw [hb]; exact (show _ = vs 19 by kernel_rfl).trans (hp 19 (by decide))
                  rw [if_neg (AnyO.wanted_no (g := 19) (t := 143) (want := false) rfl rfl s143)]
                  clear hb hp
                  exact hK _ _ hE (fun _ _ _ h => h) rfl
                · -- 27: Op.binOp BinOp.eql 33 (Operand.tmp 144) (Operand.tmp 150) 33
                  refine AnyO.StepP.mk rfl [20, 26, 19] (by kernel_rfl) ?_
                  intro vs u hE hp ac hb K hK
                  have s143 : ac.tmps[143]?.getD undef = .bool true := by rw [hb]; exact (show _ = vs 19 by kernel_rfl).trans (hp 19 (by decide))
                  rw [if_neg (AnyO.wanted_no (g := 19) (t := 143) (want := false) rfl rfl s143)]
                  clear hb hp
                  exact hK _ _ hE (fun _ _ _ h => h) rfl
                · -- 28: Op.pick (Operand.tmp 143) (Operand.const (Value.bool true)) 
                  refine AnyO.StepP.mk rfl [19, 27, 16] (by kernel_rfl) ?_
                  intro vs u hE hp ac hb K hK
                  have s143 : ac.tmps[143]?.getD undef = .bool true := by rw [hb]; exact (show _ = vs 19 by kernel_rfl).trans (hp 19 (by decide))
                  have s151 : ac.tmps[151]?.getD undef = undef := by rw [hb]; exact (show _ = vs 27 by kernel_rfl).trans (hp 27 (by decide))
                  have s140 : ac.tmps[140]?.getD undef = .bool true := by rw [hb]; exact (show _ = vs 16 by kernel_rfl).trans (hp 16 (by decide))
                  rw [if_pos (AnyO.wanted_some (g := 16) (t := 140) (want := true) rfl rfl s140)]
                  clear hb hp
                  go_simp
                  first | exact hK _ _ hE (fun _ _ _ h => h) rfl | (simp; exact hK _ _ hE (fun _ _ _ h => h) rfl)
                · -- 29: Op.pick (Operand.tmp 140) (Operand.tmp 152) (Operand.const (
                  refine AnyO.StepP.mk rfl [16, 28] (by kernel_rfl) ?_
                  intro vs u hE hp ac hb K hK
                  have s140 : ac.tmps[140]?.getD undef = .bool true := by rw [hb]; exact (show _ = vs 16 by kernel_rfl).trans (hp 16 (by decide))
                  have s152 : ac.tmps[152]?.getD undef = .bool true := by rw [hb]; exact (show _ = vs 28 by kernel_rfl).trans (hp 28 (by decide))
                  rw [if_pos (AnyO.wanted_none rfl)]
                  clear hb hp
                  go_simp
                  first | exact hK _ _ hE (fun _ _ _ h => h) rfl | (simp; exact hK _ _ hE (fun _ _ _ h => h) rfl)
                · -- 30: Op.move (Operand.tmp 153)
                  refine AnyO.StepP.mk rfl [29, 19] (by kernel_rfl) ?_
                  intro vs u hE hp ac hb K hK
                  have s153 : ac.tmps[153]?.getD undef = .bool true := by rw [hb]; exact (show _ = vs 29 by kernel_rfl).trans (hp 29 (by decide))
                  rw [if_pos (AnyO.wanted_none rfl)]
                  clear hb hp
                  go_simp
                  exact hK _ _ hE (fun _ _ _ h => h) rfl
                · -- 31: Op.move (Operand.tmp 16)
                  refine AnyO.StepP.mk rfl [30] (by kernel_rfl) ?_
                  intro vs u hE hp ac hb K hK
                  have s16 : ac.tmps[16]?.getD undef = .int .i64 xs.length := by rw [hb]; kernel_rfl
                  have s154 : ac.tmps[154]?.getD undef = .bool true := by rw [hb]; exact (show _ = vs 30 by kernel_rfl).trans (hp 30 (by decide))
                  rw [if_pos (AnyO.wanted_some (g := 30) (t := 154) (want := true) rfl rfl s154)]
                  clear hb hp
                  go_simp
                  exact hK _ _ hE (fun _ _ _ h => h) rfl
                · -- 32: Op.load 22 (Operand.tmp 2)
                  refine AnyO.StepP.mk rfl [30] (by kernel_rfl) ?_
                  intro vs u hE hp ac hb K hK
                  have s2 : ac.tmps[2]?.getD undef = .pointer (some ⟨w.heap.size, 0, none⟩) := by rw [hb]; kernel_rfl
                  have s154 : ac.tmps[154]?.getD undef = .bool true := by rw [hb]; exact (show _ = vs 30 by kernel_rfl).trans (hp 30 (by decide))
                  rw [if_pos (AnyO.wanted_some (g := 30) (t := 154) (want := true) rfl rfl s154)]
                  clear hb hp
                  have c2 := hE.1.m.e.c2
                  go_simp
                  exact hK _ _ hE (fun _ _ _ h => h) rfl
                · -- 33: Op.call { callee := Callee.builtin Builtin.len, args := #[Op
                  refine AnyO.StepP.mk rfl [32, 30] (by kernel_rfl) ?_
                  intro vs u hE hp ac hb K hK
                  have s156 : ac.tmps[156]?.getD undef = .slice A xs.length c := by rw [hb]; exact (show _ = vs 32 by kernel_rfl).trans (hp 32 (by decide))
                  have s154 : ac.tmps[154]?.getD undef = .bool true := by rw [hb]; exact (show _ = vs 30 by kernel_rfl).trans (hp 30 (by decide))
                  rw [if_pos (AnyO.wanted_some (g := 30) (t := 154) (want := true) rfl rfl s154)]
                  clear hb hp
                  go_simp
                  exact hK _ _ hE (fun _ _ _ h => h) rfl
                · -- 34: Op.binOp BinOp.eql 3 (Operand.tmp 155) (Operand.tmp 157) 3
                  refine AnyO.StepP.mk rfl [31, 33, 30] (by kernel_rfl) ?_
                  intro vs u hE hp ac hb K hK
                  have s155 : ac.tmps[155]?.getD undef = .int .i64 xs.length := by rw [hb]; exact (show _ = vs 31 by kernel_rfl).trans (hp 31 (by decide))
                  have s157 : ac.tmps[157]?.getD undef = .int .i64 xs.length := by rw [hb]; exact (show _ = vs 33 by kernel_rfl).trans (hp 33 (by decide))
                  have s154 : ac.tmps[154]?.getD undef = .bool true := by rw [hb]; exact (show _ = vs 30 by kernel_rfl).trans (hp 30 (by decide))
                  rw [if_pos (AnyO.wanted_some (g := 30) (t := 154) (want := true) rfl rfl s154)]
                  clear hb hp
                  go_simp
                  first | exact hK _ _ hE (fun _ _ _ h => h) rfl | (simp; exact hK _ _ hE (fun _ _ _ h => h) rfl)
                · -- 35: Op.pick (Operand.tmp 154) (Operand.tmp 158) (Operand.const (
                  refine AnyO.StepP.mk rfl [30, 34] (by kernel_rfl) ?_
                  intro vs u hE hp ac hb K hK
                  have s154 : ac.tmps[154]?.getD undef = .bool true := by rw [hb]; exact (show _ = vs 30 by kernel_rfl).trans (hp 30 (by decide))
                  have s158 : ac.tmps[158]?.getD undef = .bool true := by rw [hb]; exact (show _ = vs 34 by kernel_rfl).trans (hp 34 (by decide))
                  rw [if_pos (AnyO.wanted_none rfl)]
                  clear hb hp
                  go_simp
                  first | exact hK _ _ hE (fun _ _ _ h => h) rfl | (simp; exact hK _ _ hE (fun _ _ _ h => h) rfl)
                · -- 36: Op.move (Operand.tmp 159)
                  refine AnyO.StepP.mk rfl [35, 30] (by kernel_rfl) ?_
                  intro vs u hE hp ac hb K hK
                  have s159 : ac.tmps[159]?.getD undef = .bool true := by rw [hb]; exact (show _ = vs 35 by kernel_rfl).trans (hp 35 (by decide))
                  rw [if_pos (AnyO.wanted_none rfl)]
                  clear hb hp
                  go_simp
                  exact hK _ _ hE (fun _ _ _ h => h) rfl
                · -- 37: Op.move (Operand.tmp 17)
                  refine AnyO.StepP.mk rfl [36] (by kernel_rfl) ?_
                  intro vs u hE hp ac hb K hK
                  have s17 : ac.tmps[17]?.getD undef = .bool false := by rw [hb]; kernel_rfl
                  have s160 : ac.tmps[160]?.getD undef = .bool true := by rw [hb]; exact (show _ = vs 36 by kernel_rfl).trans (hp 36 (by decide))
                  rw [if_pos (AnyO.wanted_some (g := 36) (t := 160) (want := true) rfl rfl s160)]
                  clear hb hp
                  go_simp
                  exact hK _ _ hE (fun _ _ _ h => h) rfl
                · -- 38: Op.unOp UnOp.not 4 (Operand.tmp 161)
                  refine AnyO.StepP.mk rfl [37, 36] (by kernel_rfl) ?_
                  intro vs u hE hp ac hb K hK
                  have s161 : ac.tmps[161]?.getD undef = .bool false := by rw [hb]; exact (show _ = vs 37 by kernel_rfl).trans (hp 37 (by decide))
                  have s160 : ac.tmps[160]?.getD undef = .bool true := by rw [hb]; exact (show _ = vs 36 by kernel_rfl).trans (hp 36 (by decide))
                  rw [if_pos (AnyO.wanted_some (g := 36) (t := 160) (want := true) rfl rfl s160)]
                  clear hb hp
                  go_simp
                  first | exact hK _ _ hE (fun _ _ _ h => h) rfl | (simp; exact hK _ _ hE (fun _ _ _ h => h) rfl)
                · -- 39: Op.pick (Operand.tmp 160) (Operand.tmp 162) (Operand.const (
                  refine AnyO.StepP.mk rfl [36, 38] (by kernel_rfl) ?_
                  intro vs u hE hp ac hb K hK
                  have s160 : ac.tmps[160]?.getD undef = .bool true := by rw [hb]; exact (show _ = vs 36 by kernel_rfl).trans (hp 36 (by decide))
                  have s162 : ac.tmps[162]?.getD undef = .bool true := by rw [hb]; exact (show _ = vs 38 by kernel_rfl).trans (hp 38 (by decide))
                  rw [if_pos (AnyO.wanted_none rfl)]
                  clear hb hp
                  go_simp
                  first | exact hK _ _ hE (fun _ _ _ h => h) rfl | (simp; exact hK _ _ hE (fun _ _ _ h => h) rfl)
              · intro vs u hE hp
                have e0 : vs 0 = .int .i64 (xs.length : Int) := hp 0 (by decide)
                have e1 : vs 1 = .slice A xs.length c := hp 1 (by decide)
                have e2 : vs 2 = .int .i64 xs.length := hp 2 (by decide)
                have e3 : vs 3 = .bool true := hp 3 (by decide)
                have e4 : vs 4 = .bool true := hp 4 (by decide)
                have e5 : vs 5 = undef := hp 5 (by decide)
                have e6 : vs 6 = undef := hp 6 (by decide)
                have e7 : vs 7 = undef := hp 7 (by decide)
                have e8 : vs 8 = .bool true := hp 8 (by decide)
                have e9 : vs 9 = .bool true := hp 9 (by decide)
                have e10 : vs 10 = .bool false := hp 10 (by decide)
                have e11 : vs 11 = .slice A xs.length c := hp 11 (by decide)
                have e12 : vs 12 = .int .i64 xs.length := hp 12 (by decide)
                have e13 : vs 13 = .bool false := hp 13 (by decide)
                have e14 : vs 14 = .bool true := hp 14 (by decide)
                have e15 : vs 15 = .bool true := hp 15 (by decide)
                have e16 : vs 16 = .bool true := hp 16 (by decide)
                have e17 : vs 17 = .bool false := hp 17 (by decide)
                have e18 : vs 18 = .bool true := hp 18 (by decide)
                have e19 : vs 19 = .bool true := hp 19 (by decide)
                have e20 : vs 20 = undef := hp 20 (by decide)
                have e21 : vs 21 = undef := hp 21 (by decide)
                have e22 : vs 22 = undef := hp 22 (by decide)
                have e23 : vs 23 = undef := hp 23 (by decide)
                have e24 : vs 24 = undef := hp 24 (by decide)
                have e25 : vs 25 = undef := hp 25 (by decide)
                have e26 : vs 26 = undef := hp 26 (by decide)
                have e27 : vs 27 = undef := hp 27 (by decide)
                have e28 : vs 28 = .bool true := hp 28 (by decide)
                have e29 : vs 29 = .bool true := hp 29 (by decide)
                have e30 : vs 30 = .bool true := hp 30 (by decide)
                have e31 : vs 31 = .int .i64 xs.length := hp 31 (by decide)
                have e32 : vs 32 = .slice A xs.length c := hp 32 (by decide)
                have e33 : vs 33 = .int .i64 xs.length := hp 33 (by decide)
                have e34 : vs 34 = .bool true := hp 34 (by decide)
                have e35 : vs 35 = .bool true := hp 35 (by decide)
                have e36 : vs 36 = .bool true := hp 36 (by decide)
                have e37 : vs 37 = .bool false := hp 37 (by decide)
                have e38 : vs 38 = .bool true := hp 38 (by decide)
                have e39 : vs 39 = .bool true := hp 39 (by decide)
                clear hp
                rw [puts_range [some 124, some 125, some 126, some 127, some 128, some 129, some 130, some 131, some 132, some 133, some 134, some 135, some 136, some 137, some 138, some 139, some 140, some 141, some 142, some 143, some 144, some 145, some 146, some 147, some 148, some 149, some 150, some 151, some 152, some 153, some 154, some 155, some 156, some 157, some 158, some 159, some 160, some 161, some 162, some 163] (by kernel_rfl)]
                simp only [putL, Nat.reduceAdd, List.drop_succ_cons, List.drop_zero, e0, e1, e2, e3, e4, e5, e6, e7, e8, e9, e10, e11, e12, e13, e14, e15, e16, e17, e18, e19, e20, e21, e22, e23, e24, e25, e26, e27, e28, e29, e30, e31, e32, e33, e34, e35, e36, e37, e38, e39]
                clear e0 e1 e2 e3 e4 e5 e6 e7 e8 e9 e10 e11 e12 e13 e14 e15 e16 e17 e18 e19 e20 e21 e22 e23 e24 e25 e26 e27 e28 e29 e30 e31 e32 e33 e34 e35 e36 e37 e38 e39
                go_simp
                have c4 := hE.1.m.e.c4
                have f4 := hE.1.m.e.f4
                have hKu : u.heap[D]? = some (.deferred (some [])) := (hE.2.2.block D (Array.getElem?_eq_some_iff.1 HW.out.2.2).1).trans HW.out.2.2
                have k4 : (u.setCell ⟨w.heap.size + 1 + 1, 0, none⟩ (.bool true)).cell? ⟨w.heap.size + 1 + 1, 0, none⟩ = some (.bool true) := World.cell?_setCell_same' _ _ _ (by rw [c4]; rfl)
                have hKs : (u.setCell ⟨w.heap.size + 1 + 1, 0, none⟩ (.bool true)).heap[D]? = some (.deferred (some [])) := (KeepsOthers.setCell _ _ _).same _ _ hKu rfl
                have k5 := cell_kept k4 (grownBy_putObj' _ D (.deferred none)) (fun r e => by cases e; exact ⟨_, hKs, rfl⟩)
                have hbl : Below w.heap.size w (u.setCell ⟨w.heap.size + 1 + 1, 0, none⟩ (.bool true)) := hE.1.m.e.bl.setCell (p := ⟨w.heap.size + 1 + 1, 0, none⟩) (by dsimp only; omega) _
                have HS := Lib.hid (And.intro hKs (And.intro k5 hbl))
                clear hKu hKs k4 k5 hbl
                gi_wp2
                refine wp_ret ?_
                obtain ⟨hKs, k5, hbl⟩ := HS.out
                refine ⟨by simp, .inl ⟨_, _, rfl, run_takeDeferred hKs, ?_⟩⟩
                exact ⟨_, results_c1 (ad := ⟨w.heap.size + 1 + 1, 0, none⟩) rfl rfl (by simp [go_sem, k5]), rfl, hbl.trans (belowK_b (w := w) (Nat.le_refl _) _ D _ _ (by omega) hKs rfl rfl)⟩
            · obtain rfl : (n : Int) = stop := hn.resolve_left hnl
              have hn1 : ((n : Int) == (xs.length : Int)) = false := by simp; omega
              have hn2 : decide ((n : Int) = (xs.length : Int)) = false := by simp; omega
              clear hn
              refine AnyO.wpIn_any_tailP (.inl rfl) 40 (by kernel_rfl) (by kernel_rfl) (by kernel_rfl) (by kernel_rfl) (by kernel_rfl) (by kernel_rfl) (fun u => G4 w A c (n : Int) xs b5 b6 wc.heap.size A2 d2 x n u ∧ At u ⟨b13, 0, none⟩ (cI zI) ∧ Below W9.heap.size W9 u) (pstP [isV (.int .i64 (n : Int)), isV (.slice A xs.length c), isV (.int .i64 xs.length), isV (.bool false), isV (.bool false), isV (.int .i64 (n : Int)), isV (.int .i64 (n : Int)), isV (.bool true), isV (.bool true), isV (.bool true), isV (.bool false), isV (.slice A xs.length c), isV (.int .i64 xs.length), isV (.bool false), isV (.bool true), isV (.bool true), isV (.bool true), isV (.bool false), isV (.bool true), isV (.bool true), isV (undef), isV (undef), isV (undef), isV (undef), isV (undef), isV (undef), isV (undef), isV (undef), isV (.bool true), isV (.bool true), isV (.bool true), isV (.int .i64 xs.length), isV (.slice A xs.length c), isV (.int .i64 xs.length), isV (.bool true), isV (.bool true), isV (.bool true), isV (.bool false), isV (.bool true), isV (.bool true)]) (⟨HW.out.1.keep (below_drew _), HW.out.2.1.keep (below_drew _), below_drew _⟩) ?_ ?_
              · intro i hi
                have hi2 : i = 0 ∨ i = 1 ∨ i = 2 ∨ i = 3 ∨ i = 4 ∨ i = 5 ∨ i = 6 ∨ i = 7 ∨ i = 8 ∨ i = 9 ∨ i = 10 ∨ i = 11 ∨ i = 12 ∨ i = 13 ∨ i = 14 ∨ i = 15 ∨ i = 16 ∨ i = 17 ∨ i = 18 ∨ i = 19 ∨ i = 20 ∨ i = 21 ∨ i = 22 ∨ i = 23 ∨ i = 24 ∨ i = 25 ∨ i = 26 ∨ i = 27 ∨ i = 28 ∨ i = 29 ∨ i = 30 ∨ i = 31 ∨ i = 32 ∨ i = 33 ∨ i = 34 ∨ i = 35 ∨ i = 36 ∨ i = 37 ∨ i = 38 ∨ i = 39 := by omega
                clear hi
                rcases hi2 with rfl | rfl | rfl | rfl | rfl | rfl | rfl | rfl | rfl | rfl | rfl | rfl | rfl | rfl | rfl | rfl | rfl | rfl | rfl | rfl | rfl | rfl | rfl | rfl | rfl | rfl | rfl | rfl | rfl | rfl | rfl | rfl | rfl | rfl | rfl | rfl | rfl | rfl | rfl | rfl
                · -- 0: Op.load 3 (Operand.tmp 10)
                  refine AnyO.StepP.mk rfl [] (by kernel_rfl) ?_
                  intro vs u hE hp ac hb K hK
                  have s10 : ac.tmps[10]?.getD undef = .pointer (some ⟨wc.heap.size, 0, none⟩) := by rw [hb]; kernel_rfl
                  rw [if_pos (AnyO.wanted_none rfl)]
                  clear hb hp
                  have c10 := hE.1.c10
                  go_simp
                  exact hK _ _ hE (fun _ _ _ h => h) rfl
                · -- 1: Op.load 22 (Operand.tmp 2)
                  refine AnyO.StepP.mk rfl [] (by kernel_rfl) ?_
                  intro vs u hE hp ac hb K hK
                  have s2 : ac.tmps[2]?.getD undef = .pointer (some ⟨w.heap.size, 0, none⟩) := by rw [hb]; kernel_rfl
                  rw [if_pos (AnyO.wanted_none rfl)]
                  clear hb hp
                  have c2 := hE.1.m.e.c2
                  go_simp
                  exact hK _ _ hE (fun _ _ _ h => h) rfl
                · -- 2: Op.call { callee := Callee.builtin Builtin.len, args := #[Op
                  refine AnyO.StepP.mk rfl [1] (by kernel_rfl) ?_
                  intro vs u hE hp ac hb K hK
                  have s125 : ac.tmps[125]?.getD undef = .slice A xs.length c := by rw [hb]; exact (show _ = vs 1 by kernel_rfl).trans (hp 1 (by decide))
                  rw [if_pos (AnyO.wanted_none rfl)]
                  clear hb hp
                  go_simp
                  exact hK _ _ hE (fun _ _ _ h => h) rfl
                · -- 3: Op.binOp BinOp.eql 3 (Operand.tmp 124) (Operand.tmp 126) 3
                  refine AnyO.StepP.mk rfl [0, 2] (by kernel_rfl) ?_
                  intro vs u hE hp ac hb K hK
                  have s124 : ac.tmps[124]?.getD undef = .int .i64 (n : Int) := by rw [hb]; exact (show _ = vs 0 by kernel_rfl).trans (hp 0 (by decide))
                  have s126 : ac.tmps[126]?.getD undef = .int .i64 xs.length := by rw [hb]; exact (show _ = vs 2 by kernel_rfl).trans (hp 2 (by decide))
                  rw [if_pos (AnyO.wanted_none rfl)]
                  clear hb hp
                  go_simp
                  first | exact hK _ _ hE (fun _ _ _ h => h) rfl | (rw [hn1]; exact hK _ _ hE (fun _ _ _ h => h) rfl) | (rw [hn2]; exact hK _ _ hE (fun _ _ _ h => h) rfl)
                · -- 4: Op.move (Operand.tmp 127)
                  refine AnyO.StepP.mk rfl [3] (by kernel_rfl) ?_
                  intro vs u hE hp ac hb K hK
                  have s127 : ac.tmps[127]?.getD undef = .bool false := by rw [hb]; exact (show _ = vs 3 by kernel_rfl).trans (hp 3 (by decide))
                  rw [if_pos (AnyO.wanted_none rfl)]
                  clear hb hp
                  go_simp
                  exact hK _ _ hE (fun _ _ _ h => h) rfl
                · -- 5: Op.load 3 (Operand.tmp 10)
                  refine AnyO.StepP.mk rfl [4] (by kernel_rfl) ?_
                  intro vs u hE hp ac hb K hK
                  have s10 : ac.tmps[10]?.getD undef = .pointer (some ⟨wc.heap.size, 0, none⟩) := by rw [hb]; kernel_rfl
                  have s128 : ac.tmps[128]?.getD undef = .bool false := by rw [hb]; exact (show _ = vs 4 by kernel_rfl).trans (hp 4 (by decide))
                  rw [if_pos (AnyO.wanted_some (g := 4) (t := 128) (want := false) rfl rfl s128)]
                  clear hb hp
                  have c10 := hE.1.c10
                  go_simp
                  exact hK _ _ hE (fun _ _ _ h => h) rfl
                · -- 6: Op.load 3 (Operand.tmp 3)
                  refine AnyO.StepP.mk rfl [4] (by kernel_rfl) ?_
                  intro vs u hE hp ac hb K hK
                  have s3 : ac.tmps[3]?.getD undef = .pointer (some ⟨w.heap.size + 1, 0, none⟩) := by rw [hb]; kernel_rfl
                  have s128 : ac.tmps[128]?.getD undef = .bool false := by rw [hb]; exact (show _ = vs 4 by kernel_rfl).trans (hp 4 (by decide))
                  rw [if_pos (AnyO.wanted_some (g := 4) (t := 128) (want := false) rfl rfl s128)]
                  clear hb hp
                  have c3 := hE.1.m.e.c3
                  go_simp
                  exact hK _ _ hE (fun _ _ _ h => h) rfl
                · -- 7: Op.binOp BinOp.eql 3 (Operand.tmp 129) (Operand.tmp 130) 3
                  refine AnyO.StepP.mk rfl [5, 6, 4] (by kernel_rfl) ?_
                  intro vs u hE hp ac hb K hK
                  have s129 : ac.tmps[129]?.getD undef = .int .i64 (n : Int) := by rw [hb]; exact (show _ = vs 5 by kernel_rfl).trans (hp 5 (by decide))
                  have s130 : ac.tmps[130]?.getD undef = .int .i64 (n : Int) := by rw [hb]; exact (show _ = vs 6 by kernel_rfl).trans (hp 6 (by decide))
                  have s128 : ac.tmps[128]?.getD undef = .bool false := by rw [hb]; exact (show _ = vs 4 by kernel_rfl).trans (hp 4 (by decide))
                  rw [if_pos (AnyO.wanted_some (g := 4) (t := 128) (want := false) rfl rfl s128)]
                  clear hb hp
                  go_simp
                  first | exact hK _ _ hE (fun _ _ _ h => h) rfl | (simp; exact hK _ _ hE (fun _ _ _ h => h) rfl)
                · -- 8: Op.pick (Operand.tmp 128) (Operand.const (Value.bool true)) 
                  refine AnyO.StepP.mk rfl [4, 7] (by kernel_rfl) ?_
                  intro vs u hE hp ac hb K hK
                  have s128 : ac.tmps[128]?.getD undef = .bool false := by rw [hb]; exact (show _ = vs 4 by kernel_rfl).trans (hp 4 (by decide))
                  have s131 : ac.tmps[131]?.getD undef = .bool true := by rw [hb]; exact (show _ = vs 7 by kernel_rfl).trans (hp 7 (by decide))
                  rw [if_pos (AnyO.wanted_none rfl)]
                  clear hb hp
                  go_simp
                  first | exact hK _ _ hE (fun _ _ _ h => h) rfl | (simp; exact hK _ _ hE (fun _ _ _ h => h) rfl)
                · -- 9: Op.move (Operand.tmp 132)
                  refine AnyO.StepP.mk rfl [8, 4] (by kernel_rfl) ?_
                  intro vs u hE hp ac hb K hK
                  have s132 : ac.tmps[132]?.getD undef = .bool true := by rw [hb]; exact (show _ = vs 8 by kernel_rfl).trans (hp 8 (by decide))
                  rw [if_pos (AnyO.wanted_none rfl)]
                  clear hb hp
                  go_simp
                  exact hK _ _ hE (fun _ _ _ h => h) rfl
                · -- 10: Op.move (Operand.tmp 14)
                  refine AnyO.StepP.mk rfl [9] (by kernel_rfl) ?_
                  intro vs u hE hp ac hb K hK
                  have s14 : ac.tmps[14]?.getD undef = .bool false := by rw [hb]; kernel_rfl
                  have s133 : ac.tmps[133]?.getD undef = .bool true := by rw [hb]; exact (show _ = vs 9 by kernel_rfl).trans (hp 9 (by decide))
                  rw [if_pos (AnyO.wanted_some (g := 9) (t := 133) (want := true) rfl rfl s133)]
                  clear hb hp
                  go_simp
                  exact hK _ _ hE (fun _ _ _ h => h) rfl
                · -- 11: Op.load 22 (Operand.tmp 2)
                  refine AnyO.StepP.mk rfl [9] (by kernel_rfl) ?_
                  intro vs u hE hp ac hb K hK
                  have s2 : ac.tmps[2]?.getD undef = .pointer (some ⟨w.heap.size, 0, none⟩) := by rw [hb]; kernel_rfl
                  have s133 : ac.tmps[133]?.getD undef = .bool true := by rw [hb]; exact (show _ = vs 9 by kernel_rfl).trans (hp 9 (by decide))
                  rw [if_pos (AnyO.wanted_some (g := 9) (t := 133) (want := true) rfl rfl s133)]
                  clear hb hp
                  have c2 := hE.1.m.e.c2
                  go_simp
                  exact hK _ _ hE (fun _ _ _ h => h) rfl
                · -- 12: Op.call { callee := Callee.builtin Builtin.len, args := #[Op
                  refine AnyO.StepP.mk rfl [11, 9] (by kernel_rfl) ?_
                  intro vs u hE hp ac hb K hK
                  have s135 : ac.tmps[135]?.getD undef = .slice A xs.length c := by rw [hb]; exact (show _ = vs 11 by kernel_rfl).trans (hp 11 (by decide))
                  have s133 : ac.tmps[133]?.getD undef = .bool true := by rw [hb]; exact (show _ = vs 9 by kernel_rfl).trans (hp 9 (by decide))
                  rw [if_pos (AnyO.wanted_some (g := 9) (t := 133) (want := true) rfl rfl s133)]
                  clear hb hp
                  go_simp
                  exact hK _ _ hE (fun _ _ _ h => h) rfl
                · -- 13: Op.binOp BinOp.gtr 3 (Operand.tmp 136) (Operand.const (Value
                  refine AnyO.StepP.mk rfl [12, 9] (by kernel_rfl) ?_
                  intro vs u hE hp ac hb K hK
                  have s136 : ac.tmps[136]?.getD undef = .int .i64 xs.length := by rw [hb]; exact (show _ = vs 12 by kernel_rfl).trans (hp 12 (by decide))
                  have s133 : ac.tmps[133]?.getD undef = .bool true := by rw [hb]; exact (show _ = vs 9 by kernel_rfl).trans (hp 9 (by decide))
                  rw [if_pos (AnyO.wanted_some (g := 9) (t := 133) (want := true) rfl rfl s133)]
                  clear hb hp
                  go_simp
                  first | exact hK _ _ hE (fun _ _ _ h => h) rfl | (rw [hgt]; exact hK _ _ hE (fun _ _ _ h => h) rfl) | (rw [hgt2]; exact hK _ _ hE (fun _ _ _ h => h) rfl)
                · -- 14: Op.binOp BinOp.eql 4 (Operand.tmp 134) (Operand.tmp 137) 4
                  refine AnyO.StepP.mk rfl [10, 13, 9] (by kernel_rfl) ?_
                  intro vs u hE hp ac hb K hK
                  have s134 : ac.tmps[134]?.getD undef = .bool false := by rw [hb]; exact (show _ = vs 10 by kernel_rfl).trans (hp 10 (by decide))
                  have s137 : ac.tmps[137]?.getD undef = .bool false := by rw [hb]; exact (show _ = vs 13 by kernel_rfl).trans (hp 13 (by decide))
                  have s133 : ac.tmps[133]?.getD undef = .bool true := by rw [hb]; exact (show _ = vs 9 by kernel_rfl).trans (hp 9 (by decide))
                  rw [if_pos (AnyO.wanted_some (g := 9) (t := 133) (want := true) rfl rfl s133)]
                  clear hb hp
                  go_simp
                  first | exact hK _ _ hE (fun _ _ _ h => h) rfl | (simp; exact hK _ _ hE (fun _ _ _ h => h) rfl)
                · -- 15: Op.pick (Operand.tmp 133) (Operand.tmp 138) (Operand.const (
                  refine AnyO.StepP.mk rfl [9, 14] (by kernel_rfl) ?_
                  intro vs u hE hp ac hb K hK
                  have s133 : ac.tmps[133]?.getD undef = .bool true := by rw [hb]; exact (show _ = vs 9 by kernel_rfl).trans (hp 9 (by decide))
                  have s138 : ac.tmps[138]?.getD undef = .bool true := by rw [hb]; exact (show _ = vs 14 by kernel_rfl).trans (hp 14 (by decide))
                  rw [if_pos (AnyO.wanted_none rfl)]
                  clear hb hp
                  go_simp
                  first | exact hK _ _ hE (fun _ _ _ h => h) rfl | (simp; exact hK _ _ hE (fun _ _ _ h => h) rfl)
                · -- 16: Op.move (Operand.tmp 139)
                  refine AnyO.StepP.mk rfl [15, 9] (by kernel_rfl) ?_
                  intro vs u hE hp ac hb K hK
                  have s139 : ac.tmps[139]?.getD undef = .bool true := by rw [hb]; exact (show _ = vs 15 by kernel_rfl).trans (hp 15 (by decide))
                  rw [if_pos (AnyO.wanted_none rfl)]
                  clear hb hp
                  go_simp
                  exact hK _ _ hE (fun _ _ _ h => h) rfl
                · -- 17: Op.move (Operand.tmp 14)
                  refine AnyO.StepP.mk rfl [16] (by kernel_rfl) ?_
                  intro vs u hE hp ac hb K hK
                  have s14 : ac.tmps[14]?.getD undef = .bool false := by rw [hb]; kernel_rfl
                  have s140 : ac.tmps[140]?.getD undef = .bool true := by rw [hb]; exact (show _ = vs 16 by kernel_rfl).trans (hp 16 (by decide))
                  rw [if_pos (AnyO.wanted_some (g := 16) (t := 140) (want := true) rfl rfl s140)]
                  clear hb hp
                  go_simp
                  exact hK _ _ hE (fun _ _ _ h => h) rfl
                · -- 18: Op.unOp UnOp.not 4 (Operand.tmp 141)
                  refine AnyO.StepP.mk rfl [17, 16] (by kernel_rfl) ?_
                  intro vs u hE hp ac hb K hK
                  have s141 : ac.tmps[141]?.getD undef = .bool false := by rw [hb]; exact (show _ = vs 17 by kernel_rfl).trans (hp 17 (by decide))
                  have s140 : ac.tmps[140]?.getD undef = .bool true := by rw [hb]; exact (show _ = vs 16 by kernel_rfl).trans (hp 16 (by decide))
                  rw [if_pos (AnyO.wanted_some (g := 16) (t := 140) (want := true) rfl rfl s140)]
                  clear hb hp
                  go_simp
                  exact hK _ _ hE (fun _ _ _ h => h) rfl
                · -- 19: Op.move (Operand.tmp 142)
                  refine AnyO.StepP.mk rfl [18, 16, 16] (by kernel_rfl) ?_
                  intro vs u hE hp ac hb K hK
                  have s142 : ac.tmps[142]?.getD undef = .bool true := by rw [hb]; exact (show _ = vs 18 by kernel_rfl).trans (hp 18 (by decide))
                  have s140 : ac.tmps[140]?.getD undef = .bool true := by rw [hb]; exact (show _ = vs 16 by kernel_rfl).trans (hp 16 (by decide))
                  rw [if_pos (AnyO.wanted_some (g := 16) (t := 140) (want := true) rfl rfl s140)]
                  clear hb hp
                  go_simp
                  exact hK _ _ hE (fun _ _ _ h => h) rfl
                · -- 20: Op.load 33 (Operand.tmp 13)
                  refine AnyO.StepP.mk rfl [19] (by kernel_rfl) ?_
                  intro vs u hE hp ac hb K hK
                  have s143 : ac.tmps[143]?.getD undef = .bool true := by rw [hb]; exact (show _ = vs 19 by kernel_rfl).trans (hp 19 (by decide))
                  rw [if_neg (AnyO.wanted_no (g := 19) (t := 143) (want := false) rfl rfl s143)]
                  clear hb hp
                  exact hK _ _ hE (fun _ _ _ h => h) rfl
                · -- 21: Op.load 24 (Operand.tmp 5)
                  refine AnyO.StepP.mk rfl [19] (by kernel_rfl) ?_
                  intro vs u hE hp ac hb K hK
                  have s143 : ac.tmps[143]?.getD undef = .bool true := by rw [hb]; exact (show _ = vs 19 by kernel_rfl).trans (hp 19 (by decide))
                  rw [if_neg (AnyO.wanted_no (g := 19) (t := 143) (want := false) rfl rfl s143)]
                  clear hb hp
                  exact hK _ _ hE (fun _ _ _ h => h) rfl
                · -- 22: Op.load 22 (Operand.tmp 2)
                  refine AnyO.StepP.mk rfl [19] (by kernel_rfl) ?_
                  intro vs u hE hp ac hb K hK
                  have s143 : ac.tmps[143]?.getD undef = .bool true := by rw [hb]; exact (show _ = vs 19 by kernel_rfl).trans (hp 19 (by decide))
                  rw [if_neg (AnyO.wanted_no (g := 19) (t := 143) (want := false) rfl rfl s143)]
                  clear hb hp
                  exact hK _ _ hE (fun _ _ _ h => h) rfl
                · -- 23: Op.call { callee := Callee.builtin Builtin.len, args := #[Op
                  refine AnyO.StepP.mk rfl [22, 19] (by kernel_rfl) ?_
                  intro vs u hE hp ac hb K hK
                  have s143 : ac.tmps[143]?.getD undef = .bool true := by rw [hb]; exact (show _ = vs 19 by kernel_rfl).trans (hp 19 (by decide))
                  rw [if_neg (AnyO.wanted_no (g := 19) (t := 143) (want := false) rfl rfl s143)]
                  clear hb hp
                  exact hK _ _ hE (fun _ _ _ h => h) rfl
                · -- 24: Op.binOp BinOp.sub 3 (Operand.tmp 147) (Operand.const (Value
                  refine AnyO.StepP.mk rfl [23, 19] (by kernel_rfl) ?_
                  intro vs u hE hp ac hb K hK
                  have s143 : ac.tmps[143]?.getD undef = .bool true := by rw [hb]; exact (show _ = vs 19 by kernel_rfl).trans (hp 19 (by decide))
                  rw [if_neg (AnyO.wanted_no (g := 19) (t := 143) (want := false) rfl rfl s143)]
                  clear hb hp
                  exact hK _ _ hE (fun _ _ _ h => h) rfl
                · -- 25: Op.indexAddr 24 (Operand.tmp 145) (Operand.tmp 148)
                  refine AnyO.StepP.mk rfl [21, 24, 19] (by kernel_rfl) ?_
                  intro vs u hE hp ac hb K hK
                  have s143 : ac.tmps[143]?.getD undef = .bool true := by rw [hb]; exact (show _ = vs 19 by kernel_rfl).trans (hp 19 (by decide))
                  rw [if_neg (AnyO.wanted_no (g := 19) (t := 143) (want := false) rfl rfl s143)]
                  clear hb hp
                  exact hK _ _ hE (fun _ _ _ h => h) rfl
                · -- 26: Op.load 33 (Operand.tmp 149)
                  refine AnyO.StepP.mk rfl [25, 19] (by kernel_rfl) ?_
                  intro vs u hE hp ac hb K hK
                  have s143 : ac.tmps[143]?.getD undef = .bool true := by rw [hb]; exact (show _ = vs 19 by kernel_rfl).trans (hp 19 (by decide))
                  rw [if_neg (AnyO.wanted_no (g := 19) (t := 143) (want := false) rfl rfl s143)]
                  clear hb hp
                  exact hK _ _ hE (fun _ _ _ h => h) rfl
                · -- 27: Op.binOp BinOp.eql 33 (Operand.tmp 144) (Operand.tmp 150) 33
                  refine AnyO.StepP.mk rfl [20, 26, 19] (by kernel_rfl) ?_
                  intro vs u hE hp ac hb K hK
                  have s143 : ac.tmps[143]?.getD undef = .bool true := by rw [hb]; exact (show _ = vs 19 by kernel_rfl).trans (hp 19 (by decide))
                  rw [if_neg (AnyO.wanted_no (g := 19) (t := 143) (want := false) rfl rfl s143)]
                  clear hb hp
                  exact hK _ _ hE (fun _ _ _ h => h) rfl
                · -- 28: Op.pick (Operand.tmp 143) (Operand.const (Value.bool true)) 
                  refine AnyO.StepP.mk rfl [19, 27, 16] (by kernel_rfl) ?_
                  intro vs u hE hp ac hb K hK
                  have s143 : ac.tmps[143]?.getD undef = .bool true := by rw [hb]; exact (show _ = vs 19 by kernel_rfl).trans (hp 19 (by decide))
                  have s151 : ac.tmps[151]?.getD undef = undef := by rw [hb]; exact (show _ = vs 27 by kernel_rfl).trans (hp 27 (by decide))
                  have s140 : ac.tmps[140]?.getD undef = .bool true := by rw [hb]; exact (show _ = vs 16 by kernel_rfl).trans (hp 16 (by decide))
                  rw [if_pos (AnyO.wanted_some (g := 16) (t := 140) (want := true) rfl rfl s140)]
                  clear hb hp
                  go_simp
                  first | exact hK _ _ hE (fun _ _ _ h => h) rfl | (simp; exact hK _ _ hE (fun _ _ _ h => h) rfl)
                · -- 29: Op.pick (Operand.tmp 140) (Operand.tmp 152) (Operand.const (
                  refine AnyO.StepP.mk rfl [16, 28] (by kernel_rfl) ?_
                  intro vs u hE hp ac hb K hK
                  have s140 : ac.tmps[140]?.getD undef = .bool true := by rw [hb]; exact (show _ = vs 16 by kernel_rfl).trans (hp 16 (by decide))
                  have s152 : ac.tmps[152]?.getD undef = .bool true := by rw [hb]; exact (show _ = vs 28 by kernel_rfl).trans (hp 28 (by decide))
                  rw [if_pos (AnyO.wanted_none rfl)]
                  clear hb hp
                  go_simp
                  first | exact hK _ _ hE (fun _ _ _ h => h) rfl | (simp; exact hK _ _ hE (fun _ _ _ h => h) rfl)
                · -- 30: Op.move (Operand.tmp 153)
                  refine AnyO.StepP.mk rfl [29, 19] (by kernel_rfl) ?_
                  intro vs u hE hp ac hb K hK
                  have s153 : ac.tmps[153]?.getD undef = .bool true := by rw [hb]; exact (show _ = vs 29 by kernel_rfl).trans (hp 29 (by decide))
                  rw [if_pos (AnyO.wanted_none rfl)]
                  clear hb hp
                  go_simp
                  exact hK _ _ hE (fun _ _ _ h => h) rfl
                · -- 31: Op.move (Operand.tmp 16)
                  refine AnyO.StepP.mk rfl [30] (by kernel_rfl) ?_
                  intro vs u hE hp ac hb K hK
                  have s16 : ac.tmps[16]?.getD undef = .int .i64 xs.length := by rw [hb]; kernel_rfl
                  have s154 : ac.tmps[154]?.getD undef = .bool true := by rw [hb]; exact (show _ = vs 30 by kernel_rfl).trans (hp 30 (by decide))
                  rw [if_pos (AnyO.wanted_some (g := 30) (t := 154) (want := true) rfl rfl s154)]
                  clear hb hp
                  go_simp
                  exact hK _ _ hE (fun _ _ _ h => h) rfl
                · -- 32: Op.load 22 (Operand.tmp 2)
                  refine AnyO.StepP.mk rfl [30] (by kernel_rfl) ?_
                  intro vs u hE hp ac hb K hK
                  have s2 : ac.tmps[2]?.getD undef = .pointer (some ⟨w.heap.size, 0, none⟩) := by rw [hb]; kernel_rfl
                  have s154 : ac.tmps[154]?.getD undef = .bool true := by rw [hb]; exact (show _ = vs 30 by kernel_rfl).trans (hp 30 (by decide))
                  rw [if_pos (AnyO.wanted_some (g := 30) (t := 154) (want := true) rfl rfl s154)]
                  clear hb hp
                  have c2 := hE.1.m.e.c2
                  go_simp
                  exact hK _ _ hE (fun _ _ _ h => h) rfl
                · -- 33: Op.call { callee := Callee.builtin Builtin.len, args := #[Op
                  refine AnyO.StepP.mk rfl [32, 30] (by kernel_rfl) ?_
                  intro vs u hE hp ac hb K hK
                  have s156 : ac.tmps[156]?.getD undef = .slice A xs.length c := by rw [hb]; exact (show _ = vs 32 by kernel_rfl).trans (hp 32 (by decide))
                  have s154 : ac.tmps[154]?.getD undef = .bool true := by rw [hb]; exact (show _ = vs 30 by kernel_rfl).trans (hp 30 (by decide))
                  rw [if_pos (AnyO.wanted_some (g := 30) (t := 154) (want := true) rfl rfl s154)]
                  clear hb hp
                  go_simp
                  exact hK _ _ hE (fun _ _ _ h => h) rfl
                · -- 34: Op.binOp BinOp.eql 3 (Operand.tmp 155) (Operand.tmp 157) 3
                  refine AnyO.StepP.mk rfl [31, 33, 30] (by kernel_rfl) ?_
                  intro vs u hE hp ac hb K hK
                  have s155 : ac.tmps[155]?.getD undef = .int .i64 xs.length := by rw [hb]; exact (show _ = vs 31 by kernel_rfl).trans (hp 31 (by decide))
                  have s157 : ac.tmps[157]?.getD undef = .int .i64 xs.length := by rw [hb]; exact (show _ = vs 33 by kernel_rfl).trans (hp 33 (by decide))
                  have s154 : ac.tmps[154]?.getD undef = .bool true := by rw [hb]; exact (show _ = vs 30 by kernel_rfl).trans (hp 30 (by decide))
                  rw [if_pos (AnyO.wanted_some (g := 30) (t := 154) (want := true) rfl rfl s154)]
                  clear hb hp
                  go_simp
                  first | exact hK _ _ hE (fun _ _ _ h => h) rfl | (simp; exact hK _ _ hE (fun _ _ _ h => h) rfl)
                · -- 35: Op.pick (Operand.tmp 154) (Operand.tmp 158) (Operand.const (
                  refine AnyO.StepP.mk rfl [30, 34] (by kernel_rfl) ?_
                  intro vs u hE hp ac hb K hK
                  have s154 : ac.tmps[154]?.getD undef = .bool true := by rw [hb]; exact (show _ = vs 30 by kernel_rfl).trans (hp 30 (by decide))
                  have s158 : ac.tmps[158]?.getD undef = .bool true := by rw [hb]; exact (show _ = vs 34 by kernel_rfl).trans (hp 34 (by decide))
                  rw [if_pos (AnyO.wanted_none rfl)]
                  clear hb hp
                  go_simp
                  first | exact hK _ _ hE (fun _ _ _ h => h) rfl | (simp; exact hK _ _ hE (fun _ _ _ h => h) rfl)
                · -- 36: Op.move (Operand.tmp 159)
                  refine AnyO.StepP.mk rfl [35, 30] (by kernel_rfl) ?_
                  intro vs u hE hp ac hb K hK
                  have s159 : ac.tmps[159]?.getD undef = .bool true := by rw [hb]; exact (show _ = vs 35 by kernel_rfl).trans (hp 35 (by decide))
                  rw [if_pos (AnyO.wanted_none rfl)]
                  clear hb hp
                  go_simp
                  exact hK _ _ hE (fun _ _ _ h => h) rfl
                · -- 37: Op.move (Operand.tmp 17)
                  refine AnyO.StepP.mk rfl [36] (by kernel_rfl) ?_
                  intro vs u hE hp ac hb K hK
                  have s17 : ac.tmps[17]?.getD undef = .bool false := by rw [hb]; kernel_rfl
                  have s160 : ac.tmps[160]?.getD undef = .bool true := by rw [hb]; exact (show _ = vs 36 by kernel_rfl).trans (hp 36 (by decide))
                  rw [if_pos (AnyO.wanted_some (g := 36) (t := 160) (want := true) rfl rfl s160)]
                  clear hb hp
                  go_simp
                  exact hK _ _ hE (fun _ _ _ h => h) rfl
                · -- 38: Op.unOp UnOp.not 4 (Operand.tmp 161)
                  refine AnyO.StepP.mk rfl [37, 36] (by kernel_rfl) ?_
                  intro vs u hE hp ac hb K hK
                  have s161 : ac.tmps[161]?.getD undef = .bool false := by rw [hb]; exact (show _ = vs 37 by kernel_rfl).trans (hp 37 (by decide))
                  have s160 : ac.tmps[160]?.getD undef = .bool true := by rw [hb]; exact (show _ = vs 36 by kernel_rfl).trans (hp 36 (by decide))
                  rw [if_pos (AnyO.wanted_some (g := 36) (t := 160) (want := true) rfl rfl s160)]
                  clear hb hp
                  go_simp
                  first | exact hK _ _ hE (fun _ _ _ h => h) rfl | (simp; exact hK _ _ hE (fun _ _ _ h => h) rfl)
                · -- 39: Op.pick (Operand.tmp 160) (Operand.tmp 162) (Operand.const (
                  refine AnyO.StepP.mk rfl [36, 38] (by kernel_rfl) ?_
                  intro vs u hE hp ac hb K hK
                  have s160 : ac.tmps[160]?.getD undef = .bool true := by rw [hb]; exact (show _ = vs 36 by kernel_rfl).trans (hp 36 (by decide))
                  have s162 : ac.tmps[162]?.getD undef = .bool true := by rw [hb]; exact (show _ = vs 38 by kernel_rfl).trans (hp 38 (by decide))
                  rw [if_pos (AnyO.wanted_none rfl)]
                  clear hb hp
                  go_simp
                  first | exact hK _ _ hE (fun _ _ _ h => h) rfl | (simp; exact hK _ _ hE (fun _ _ _ h => h) rfl)
              · intro vs u hE hp
                have e0 : vs 0 = .int .i64 (n : Int) := hp 0 (by decide)
                have e1 : vs 1 = .slice A xs.length c := hp 1 (by decide)
                have e2 : vs 2 = .int .i64 xs.length := hp 2 (by decide)
                have e3 : vs 3 = .bool false := hp 3 (by decide)
                have e4 : vs 4 = .bool false := hp 4 (by decide)
                have e5 : vs 5 = .int .i64 (n : Int) := hp 5 (by decide)
                have e6 : vs 6 = .int .i64 (n : Int) := hp 6 (by decide)
                have e7 : vs 7 = .bool true := hp 7 (by decide)
                have e8 : vs 8 = .bool true := hp 8 (by decide)
                have e9 : vs 9 = .bool true := hp 9 (by decide)
                have e10 : vs 10 = .bool false := hp 10 (by decide)
                have e11 : vs 11 = .slice A xs.length c := hp 11 (by decide)
                have e12 : vs 12 = .int .i64 xs.length := hp 12 (by decide)
                have e13 : vs 13 = .bool false := hp 13 (by decide)
                have e14 : vs 14 = .bool true := hp 14 (by decide)
                have e15 : vs 15 = .bool true := hp 15 (by decide)
                have e16 : vs 16 = .bool true := hp 16 (by decide)
                have e17 : vs 17 = .bool false := hp 17 (by decide)
                have e18 : vs 18 = .bool true := hp 18 (by decide)
                have e19 : vs 19 = .bool true := hp 19 (by decide)
                have e20 : vs 20 = undef := hp 20 (by decide)
                have e21 : vs 21 = undef := hp 21 (by decide)
                have e22 : vs 22 = undef := hp 22 (by decide)
                have e23 : vs 23 = undef := hp 23 (by decide)
                have e24 : vs 24 = undef := hp 24 (by decide)
                have e25 : vs 25 = undef := hp 25 (by decide)
                have e26 : vs 26 = undef := hp 26 (by decide)
                have e27 : vs 27 = undef := hp 27 (by decide)
                have e28 : vs 28 = .bool true := hp 28 (by decide)
                have e29 : vs 29 = .bool true := hp 29 (by decide)
                have e30 : vs 30 = .bool true := hp 30 (by decide)
                have e31 : vs 31 = .int .i64 xs.length := hp 31 (by decide)
                have e32 : vs 32 = .slice A xs.length c := hp 32 (by decide)
                have e33 : vs 33 = .int .i64 xs.length := hp 33 (by decide)
                have e34 : vs 34 = .bool true := hp 34 (by decide)
                have e35 : vs 35 = .bool true := hp 35 (by decide)
                have e36 : vs 36 = .bool true := hp 36 (by decide)
                have e37 : vs 37 = .bool false := hp 37 (by decide)
                have e38 : vs 38 = .bool true := hp 38 (by decide)
                have e39 : vs 39 = .bool true := hp 39 (by decide)
                clear hp
                rw [puts_range [some 124, some 125, some 126, some 127, some 128, some 129, some 130, some 131, some 132, some 133, some 134, some 135, some 136, some 137, some 138, some 139, some 140, some 141, some 142, some 143, some 144, some 145, some 146, some 147, some 148, some 149, some 150, some 151, some 152, some 153, some 154, some 155, some 156, some 157, some 158, some 159, some 160, some 161, some 162, some 163] (by kernel_rfl)]
                simp only [putL, Nat.reduceAdd, List.drop_succ_cons, List.drop_zero, e0, e1, e2, e3, e4, e5, e6, e7, e8, e9, e10, e11, e12, e13, e14, e15, e16, e17, e18, e19, e20, e21, e22, e23, e24, e25, e26, e27, e28, e29, e30, e31, e32, e33, e34, e35, e36, e37, e38, e39]
                clear e0 e1 e2 e3 e4 e5 e6 e7 e8 e9 e10 e11 e12 e13 e14 e15 e16 e17 e18 e19 e20 e21 e22 e23 e24 e25 e26 e27 e28 e29 e30 e31 e32 e33 e34 e35 e36 e37 e38 e39
                go_simp
                have c4 := hE.1.m.e.c4
                have f4 := hE.1.m.e.f4
                have hKu : u.heap[D]? = some (.deferred (some [])) := (hE.2.2.block D (Array.getElem?_eq_some_iff.1 HW.out.2.2).1).trans HW.out.2.2
                have k4 : (u.setCell ⟨w.heap.size + 1 + 1, 0, none⟩ (.bool true)).cell? ⟨w.heap.size + 1 + 1, 0, none⟩ = some (.bool true) := World.cell?_setCell_same' _ _ _ (by rw [c4]; rfl)
                have hKs : (u.setCell ⟨w.heap.size + 1 + 1, 0, none⟩ (.bool true)).heap[D]? = some (.deferred (some [])) := (KeepsOthers.setCell _ _ _).same _ _ hKu rfl
                have k5 := cell_kept k4 (grownBy_putObj' _ D (.deferred none)) (fun r e => by cases e; exact ⟨_, hKs, rfl⟩)
                have hbl : Below w.heap.size w (u.setCell ⟨w.heap.size + 1 + 1, 0, none⟩ (.bool true)) := hE.1.m.e.bl.setCell (p := ⟨w.heap.size + 1 + 1, 0, none⟩) (by dsimp only; omega) _
                have HS := Lib.hid (And.intro hKs (And.intro k5 hbl))
                clear hKu hKs k4 k5 hbl
                gi_wp2
                refine wp_ret ?_
                obtain ⟨hKs, k5, hbl⟩ := HS.out
                refine ⟨by simp, .inl ⟨_, _, rfl, run_takeDeferred hKs, ?_⟩⟩
                exact ⟨_, results_c1 (ad := ⟨w.heap.size + 1 + 1, 0, none⟩) rfl rfl (by simp [go_sem, k5]), rfl, hbl.trans (belowK_b (w := w) (Nat.le_refl _) _ D _ _ (by omega) hKs rfl rfl)⟩
        clear hQ0
        have hlt : wc.heap.size < W6.heap.size := hG6.o5
        have hwb : w.heap.size ≤ W6.heap.size := hG6.m.e.bl.size
        refine wpIn_rangeFunc_ownH (F := Fence.wide) (n := 6) rfl (by decide) (gf := 35) (lb := #[.pointer (some ⟨b, 0, none⟩)]) rfl trivial (enters_of Try.func35 (by kernel_rfl) rfl)
          (anc_stops 5 (by decide) b (wc.alloc (.cells #[.int .i64 0] 3)).heap.size W6.heap.size d3 A3 xs H6.out.2.1 H6.out.2.2.1 (by omega) W6 (Nat.le_refl _) H6.out.2.2.2.1 H6.out.2.2.2.2.2) KpR.trans (kpR_b (Nat.le_refl _)) (Below.refl _ _) (fun _ => rfl)
          (fun pre W => (pre = items xs pre.length ∧ pre.length ≤ xs.length) ∧ (G4 w A c stop xs b5 b6 wc.heap.size A2 d2 x pre.length W ∧ W6.heap.size ≤ W.heap.size))
          (fun co pre W => (co = .exit 2 ∧ (pre.length : Int) = stop ∧ G4 w A c stop xs b5 b6 wc.heap.size A2 d2 x pre.length W) ∨ (co = .ret ∧ ¬ ∃ k, k ≤ xs.length ∧ pre = items xs k))
          (OwnFrom.and (ownFrom_pure _ (fun pre : List (Nat × Id) => pre = items xs pre.length ∧ pre.length ≤ xs.length)) (fun s X Y row hs hg hr => ⟨hs.1.own hlt hg (fun r e => (hr r e).1), Nat.le_trans hs.2 hg.size⟩))
          (fun co => fun s X Y row hs hg hr => hs.imp (fun h => ⟨h.1, h.2.1, h.2.2.own hlt hg (fun r e => (hr r e).1)⟩) (fun h => h))
          ⟨⟨rfl, Nat.zero_le _⟩, hG6, Nat.le_refl _⟩
          (fun q a' W => ∃ Bx, W6.heap.size ≤ Bx ∧ At W ⟨Bx, 0, none⟩ (cI q.2) ∧ a' = { tmps := #[.slice A xs.length c, .int .i64 stop, .pointer (some ⟨w.heap.size, 0, none⟩), .pointer (some ⟨w.heap.size + 1, 0, none⟩), .pointer (some ⟨w.heap.size + 1 + 1, 0, none⟩), .pointer (some ⟨b5, 0, none⟩), .pointer (some ⟨b6, 0, none⟩), .int .i64 m, .bool ok, .int .i64 d, .pointer (some ⟨wc.heap.size, 0, none⟩), .int .i64 (q.1 : Int), .pointer (some ⟨Bx, 0, none⟩), undef, undef, undef, undef, undef, .bool true, .bool false, .bool false, .slice A xs.length c, .int .i64 xs.length, .bool (decide ((60 : Int) < xs.length)), .bool (decide ((60 : Int) < xs.length)), undef, .slice A xs.length c, .slice A2 xs.length d2, .tuple #[vI x, .int .i64 m, .bool ok], .slice A2 xs.length d2, .tuple #[vI x, .int .i64 m, .bool ok], vI x, .int .i64 m, .bool ok, .slice A xs.length c, .int .i64 xs.length, .int .i64 ((xs.length : Int) - 1), u37, u38, u39, u40, u41, u42, u43, u44, u45, u46, u47, u48, u49, u50, u51, u52, u53, u54, u55, u56, u57, u58, u59, u60, u61, u62, u63, u64, u65, u66, u67, u68, u69, u70, u71, .bool false, u73, u74, u75, u76, u77, u78, u79, u80, u81, u82, u83, u84, u85, u86, u87, .bool false, .slice A2 xs.length d2, .func (.func 35) #[] #[.pointer (some ⟨b, 0, none⟩)], .int .i64 (q.1 : Int), vI q.2, undef, undef, undef, undef, undef, undef, undef, undef, undef, undef, undef, undef, undef, undef, undef, undef, undef, undef, undef, undef, undef, undef, undef, undef, undef, undef, undef, undef, undef, undef, undef, undef, undef, undef, undef, undef, undef, undef, undef, undef, undef, undef, undef, undef, undef, undef, undef, undef, undef, undef, undef, undef, undef, undef, undef, undef, undef, undef, undef, undef, undef, undef, undef, undef, undef, undef, undef, undef, undef, undef, undef], defers := [] })
          (fun q a' _ X Y row hs hg hr => by obtain ⟨Bx, h1, h2, h3⟩ := hs; exact ⟨Bx, h1, h2.kept hg (fun r e => (hr r e).2), h3⟩)
          ?assign ?body ?done ?stop
        case assign =>
          rintro l pre q W K ⟨hp, hG⟩ hK
          have HP := Lib.hid (And.intro hp hG)
          clear hp hG hrest hG6
          gi_wp2
          refine hK _ _ (KeepsFrom.of_below (below_alloc W _)) (KpR.below ((below_alloc W _).mono HP.out.2.2)) ⟨HP.out.1, HP.out.2.1.keep (below_alloc W _), Nat.le_trans HP.out.2.2 (below_alloc W _).size⟩ ⟨W.heap.size, HP.out.2.2, at_new W (cI q.2) _ _ rfl, rfl⟩
        case body =>
          rintro l pre ⟨i, y⟩ a' W hll ⟨r, hr⟩ ⟨hp, hG, hsz⟩ ⟨Bx, hBx, hat, rfl⟩ hlen2
          clear hrest hG6 hr
          by_cases hi : i = xs.length - 1 - pre.length
          · have hil : i < xs.length := by omega
            have hnf : ((i : Int) != (xs.length : Int) - 1 - (pre.length : Int)) = false := by simp; omega
            obtain ⟨ad2, rfl, _, _⟩ := Sl.rd hG.m.sl.sl hil
            have hg : xs.getD i zI = xs[i] := by rw [List.getD_eq_getElem?_getD, List.getElem?_eq_getElem hil]; rfl
            by_cases hy : y = xs[i]
            · have hyd : (!decide (y = xs[i])) = false := by simp [hy]
              have HB := Lib.hid (And.intro hlen2 (And.intro hp (And.intro hG (And.intro hat (And.intro hsz (And.intro hi (And.intro hy hg)))))))
              clear hlen2 hp hG hat hsz hi hy hg
              gi_wp2
              refine AnyO.wpIn_any_tailP (.inr ⟨l, rfl⟩) 14 (by kernel_rfl) (by kernel_rfl) (by kernel_rfl) (by kernel_rfl) (by kernel_rfl) (by kernel_rfl) (fun u => G4 w A c stop xs b5 b6 wc.heap.size (some ad2) d2 x pre.length u ∧ At u ⟨Bx, 0, none⟩ (cI y) ∧ Below W.heap.size W u) (pstP [isV (.int .i64 (i : Int)), isV (.slice A xs.length c), isV (.int .i64 xs.length), isV (.int .i64 ((xs.length : Int) - 1)), isV (.int .i64 (pre.length : Int)), isV (.int .i64 ((xs.length : Int) - 1 - (pre.length : Int))), isV (.bool false), isV (.bool false), isV (vI y), isV (.slice (some ad2) xs.length d2), isV (.int .i64 (i : Int)), isV (.pointer (some (ad2.add (i * 32)))), isV (vI xs[i]), isV (.bool false)]) (⟨HB.out.2.2.1.keep (below_drew _), HB.out.2.2.2.1.keep (below_drew _), below_drew _⟩) ?_ ?_
              · intro i hi
                have hi2 : i = 0 ∨ i = 1 ∨ i = 2 ∨ i = 3 ∨ i = 4 ∨ i = 5 ∨ i = 6 ∨ i = 7 ∨ i = 8 ∨ i = 9 ∨ i = 10 ∨ i = 11 ∨ i = 12 ∨ i = 13 := by omega
                clear hi
                rcases hi2 with rfl | rfl | rfl | rfl | rfl | rfl | rfl | rfl | rfl | rfl | rfl | rfl | rfl | rfl
                · -- 0: Op.move (Operand.tmp 11)
                  refine AnyO.StepP.mk rfl [] (by kernel_rfl) ?_
                  intro vs u hE hp ac hb K hK
                  have s11 : ac.tmps[11]?.getD undef = .int .i64 (i : Int) := by rw [hb]; kernel_rfl
                  rw [if_pos (AnyO.wanted_none rfl)]
                  clear hb hp
                  go_simp
                  exact hK _ _ hE (fun _ _ _ h => h) rfl
                · -- 1: Op.load 22 (Operand.tmp 2)
                  refine AnyO.StepP.mk rfl [] (by kernel_rfl) ?_
                  intro vs u hE hp ac hb K hK
                  have s2 : ac.tmps[2]?.getD undef = .pointer (some ⟨w.heap.size, 0, none⟩) := by rw [hb]; kernel_rfl
                  rw [if_pos (AnyO.wanted_none rfl)]
                  clear hb hp
                  have c2 := hE.1.m.e.c2
                  go_simp
                  exact hK _ _ hE (fun _ _ _ h => h) rfl
                · -- 2: Op.call { callee := Callee.builtin Builtin.len, args := #[Op
                  refine AnyO.StepP.mk rfl [1] (by kernel_rfl) ?_
                  intro vs u hE hp ac hb K hK
                  have s94 : ac.tmps[94]?.getD undef = .slice A xs.length c := by rw [hb]; exact (show _ = vs 1 by kernel_rfl).trans (hp 1 (by decide))
                  rw [if_pos (AnyO.wanted_none rfl)]
                  clear hb hp
                  go_simp
                  exact hK _ _ hE (fun _ _ _ h => h) rfl
                · -- 3: Op.binOp BinOp.sub 3 (Operand.tmp 95) (Operand.const (Value.
                  refine AnyO.StepP.mk rfl [2] (by kernel_rfl) ?_
                  intro vs u hE hp ac hb K hK
                  have s95 : ac.tmps[95]?.getD undef = .int .i64 xs.length := by rw [hb]; exact (show _ = vs 2 by kernel_rfl).trans (hp 2 (by decide))
                  rw [if_pos (AnyO.wanted_none rfl)]
                  clear hb hp
                  have hl0 := HX.out.2.2
                  go_simp
                  rw [IntWalk.i64_in _ (by omega)]
                  exact hK _ _ hE (fun _ _ _ h => h) rfl
                · -- 4: Op.load 3 (Operand.tmp 10)
                  refine AnyO.StepP.mk rfl [] (by kernel_rfl) ?_
                  intro vs u hE hp ac hb K hK
                  have s10 : ac.tmps[10]?.getD undef = .pointer (some ⟨wc.heap.size, 0, none⟩) := by rw [hb]; kernel_rfl
                  rw [if_pos (AnyO.wanted_none rfl)]
                  clear hb hp
                  have c10 := hE.1.c10
                  go_simp
                  exact hK _ _ hE (fun _ _ _ h => h) rfl
                · -- 5: Op.binOp BinOp.sub 3 (Operand.tmp 96) (Operand.tmp 97) 3
                  refine AnyO.StepP.mk rfl [3, 4] (by kernel_rfl) ?_
                  intro vs u hE hp ac hb K hK
                  have s96 : ac.tmps[96]?.getD undef = .int .i64 ((xs.length : Int) - 1) := by rw [hb]; exact (show _ = vs 3 by kernel_rfl).trans (hp 3 (by decide))
                  have s97 : ac.tmps[97]?.getD undef = .int .i64 (pre.length : Int) := by rw [hb]; exact (show _ = vs 4 by kernel_rfl).trans (hp 4 (by decide))
                  rw [if_pos (AnyO.wanted_none rfl)]
                  clear hb hp
                  have hl0 := HX.out.2.2
                  have hl1 := HB.out.1
                  go_simp
                  rw [IntWalk.i64_in _ (by omega)]
                  exact hK _ _ hE (fun _ _ _ h => h) rfl
                · -- 6: Op.binOp BinOp.neq 3 (Operand.tmp 93) (Operand.tmp 98) 3
                  refine AnyO.StepP.mk rfl [0, 5] (by kernel_rfl) ?_
                  intro vs u hE hp ac hb K hK
                  have s93 : ac.tmps[93]?.getD undef = .int .i64 (i : Int) := by rw [hb]; exact (show _ = vs 0 by kernel_rfl).trans (hp 0 (by decide))
                  have s98 : ac.tmps[98]?.getD undef = .int .i64 ((xs.length : Int) - 1 - (pre.length : Int)) := by rw [hb]; exact (show _ = vs 5 by kernel_rfl).trans (hp 5 (by decide))
                  rw [if_pos (AnyO.wanted_none rfl)]
                  clear hb hp
                  go_simp
                  first | exact hK _ _ hE (fun _ _ _ h => h) rfl | (rw [hnf]; exact hK _ _ hE (fun _ _ _ h => h) rfl)
                · -- 7: Op.move (Operand.tmp 99)
                  refine AnyO.StepP.mk rfl [6] (by kernel_rfl) ?_
                  intro vs u hE hp ac hb K hK
                  have s99 : ac.tmps[99]?.getD undef = .bool false := by rw [hb]; exact (show _ = vs 6 by kernel_rfl).trans (hp 6 (by decide))
                  rw [if_pos (AnyO.wanted_none rfl)]
                  clear hb hp
                  go_simp
                  exact hK _ _ hE (fun _ _ _ h => h) rfl
                · -- 8: Op.load 33 (Operand.tmp 12)
                  refine AnyO.StepP.mk rfl [7] (by kernel_rfl) ?_
                  intro vs u hE hp ac hb K hK
                  have s12 : ac.tmps[12]?.getD undef = .pointer (some ⟨Bx, 0, none⟩) := by rw [hb]; kernel_rfl
                  have s100 : ac.tmps[100]?.getD undef = .bool false := by rw [hb]; exact (show _ = vs 7 by kernel_rfl).trans (hp 7 (by decide))
                  rw [if_pos (AnyO.wanted_some (g := 7) (t := 100) (want := false) rfl rfl s100)]
                  clear hb hp
                  have h1 := hE.2.1.ok
                  have h2 := hE.2.1.rd
                  rw [cI_length] at h1 h2
                  go_simp
                  exact hK _ _ hE (fun _ _ _ h => h) rfl
                · -- 9: Op.load 24 (Operand.tmp 5)
                  refine AnyO.StepP.mk rfl [7] (by kernel_rfl) ?_
                  intro vs u hE hp ac hb K hK
                  have s5 : ac.tmps[5]?.getD undef = .pointer (some ⟨b5, 0, none⟩) := by rw [hb]; kernel_rfl
                  have s100 : ac.tmps[100]?.getD undef = .bool false := by rw [hb]; exact (show _ = vs 7 by kernel_rfl).trans (hp 7 (by decide))
                  rw [if_pos (AnyO.wanted_some (g := 7) (t := 100) (want := false) rfl rfl s100)]
                  clear hb hp
                  have c5 := hE.1.m.c5
                  go_simp
                  exact hK _ _ hE (fun _ _ _ h => h) rfl
                · -- 10: Op.move (Operand.tmp 11)
                  refine AnyO.StepP.mk rfl [7] (by kernel_rfl) ?_
                  intro vs u hE hp ac hb K hK
                  have s11 : ac.tmps[11]?.getD undef = .int .i64 (i : Int) := by rw [hb]; kernel_rfl
                  have s100 : ac.tmps[100]?.getD undef = .bool false := by rw [hb]; exact (show _ = vs 7 by kernel_rfl).trans (hp 7 (by decide))
                  rw [if_pos (AnyO.wanted_some (g := 7) (t := 100) (want := false) rfl rfl s100)]
                  clear hb hp
                  go_simp
                  exact hK _ _ hE (fun _ _ _ h => h) rfl
                · -- 11: Op.indexAddr 24 (Operand.tmp 102) (Operand.tmp 103)
                  refine AnyO.StepP.mk rfl [9, 10, 7] (by kernel_rfl) ?_
                  intro vs u hE hp ac hb K hK
                  have s102 : ac.tmps[102]?.getD undef = .slice (some ad2) xs.length d2 := by rw [hb]; exact (show _ = vs 9 by kernel_rfl).trans (hp 9 (by decide))
                  have s103 : ac.tmps[103]?.getD undef = .int .i64 (i : Int) := by rw [hb]; exact (show _ = vs 10 by kernel_rfl).trans (hp 10 (by decide))
                  have s100 : ac.tmps[100]?.getD undef = .bool false := by rw [hb]; exact (show _ = vs 7 by kernel_rfl).trans (hp 7 (by decide))
                  rw [if_pos (AnyO.wanted_some (g := 7) (t := 100) (want := false) rfl rfl s100)]
                  clear hb hp
                  have hi1 : (0 : Int) ≤ (i : Int) := by omega
                  have hi2 : (i : Int) < (xs.length : Int) := by omega
                  go_simp
                  exact hK _ _ hE (fun _ _ _ h => h) rfl
                · -- 12: Op.load 33 (Operand.tmp 104)
                  refine AnyO.StepP.mk rfl [11, 7] (by kernel_rfl) ?_
                  intro vs u hE hp ac hb K hK
                  have s104 : ac.tmps[104]?.getD undef = .pointer (some (ad2.add (i * 32))) := by rw [hb]; exact (show _ = vs 11 by kernel_rfl).trans (hp 11 (by decide))
                  have s100 : ac.tmps[100]?.getD undef = .bool false := by rw [hb]; exact (show _ = vs 7 by kernel_rfl).trans (hp 7 (by decide))
                  rw [if_pos (AnyO.wanted_some (g := 7) (t := 100) (want := false) rfl rfl s100)]
                  clear hb hp
                  obtain ⟨ad3, h0, h1, h2⟩ := Sl.rd hE.1.m.sl.sl hil
                  obtain rfl : ad2 = ad3 := by injection h0
                  go_simp
                  exact hK _ _ hE (fun _ _ _ h => h) rfl
                · -- 13: Op.binOp BinOp.neq 33 (Operand.tmp 101) (Operand.tmp 105) 33
                  refine AnyO.StepP.mk rfl [8, 12, 7] (by kernel_rfl) ?_
                  intro vs u hE hp ac hb K hK
                  have s101 : ac.tmps[101]?.getD undef = vI y := by rw [hb]; exact (show _ = vs 8 by kernel_rfl).trans (hp 8 (by decide))
                  have s105 : ac.tmps[105]?.getD undef = vI xs[i] := by rw [hb]; exact (show _ = vs 12 by kernel_rfl).trans (hp 12 (by decide))
                  have s100 : ac.tmps[100]?.getD undef = .bool false := by rw [hb]; exact (show _ = vs 7 by kernel_rfl).trans (hp 7 (by decide))
                  rw [if_pos (AnyO.wanted_some (g := 7) (t := 100) (want := false) rfl rfl s100)]
                  clear hb hp
                  go_simp
                  first | exact hK _ _ hE (fun _ _ _ h => h) rfl | (rw [hyd]; exact hK _ _ hE (fun _ _ _ h => h) rfl)
              · intro vs u hE hp
                have e0 : vs 0 = .int .i64 (i : Int) := hp 0 (by decide)
                have e1 : vs 1 = .slice A xs.length c := hp 1 (by decide)
                have e2 : vs 2 = .int .i64 xs.length := hp 2 (by decide)
                have e3 : vs 3 = .int .i64 ((xs.length : Int) - 1) := hp 3 (by decide)
                have e4 : vs 4 = .int .i64 (pre.length : Int) := hp 4 (by decide)
                have e5 : vs 5 = .int .i64 ((xs.length : Int) - 1 - (pre.length : Int)) := hp 5 (by decide)
                have e6 : vs 6 = .bool false := hp 6 (by decide)
                have e7 : vs 7 = .bool false := hp 7 (by decide)
                have e8 : vs 8 = vI y := hp 8 (by decide)
                have e9 : vs 9 = .slice (some ad2) xs.length d2 := hp 9 (by decide)
                have e10 : vs 10 = .int .i64 (i : Int) := hp 10 (by decide)
                have e11 : vs 11 = .pointer (some (ad2.add (i * 32))) := hp 11 (by decide)
                have e12 : vs 12 = vI xs[i] := hp 12 (by decide)
                have e13 : vs 13 = .bool false := hp 13 (by decide)
                clear hp
                rw [puts_range [some 93, some 94, some 95, some 96, some 97, some 98, some 99, some 100, some 101, some 102, some 103, some 104, some 105, some 106] (by kernel_rfl)]
                simp only [putL, Nat.reduceAdd, List.drop_succ_cons, List.drop_zero, e0, e1, e2, e3, e4, e5, e6, e7, e8, e9, e10, e11, e12, e13]
                clear e0 e1 e2 e3 e4 e5 e6 e7 e8 e9 e10 e11 e12 e13
                go_simp
                have c10 := hE.1.c10
                have f10 := hE.1.f10
                have hl1 : (pre.length : Int) < 61 := by have := HB.out.1; omega
                have hS : G4 w A c stop xs b5 b6 wc.heap.size (some ad2) d2 x (pre.length + 1) (u.setCell ⟨wc.heap.size, 0, none⟩ (.int .i64 ((pre.length : Int) + 1))) := hE.1.set (pre.length + 1)
                have c10b : (u.setCell ⟨wc.heap.size, 0, none⟩ (.int .i64 ((pre.length : Int) + 1))).cell? ⟨wc.heap.size, 0, none⟩ = some (.int .i64 ((pre.length : Int) + 1)) := hS.c10
                have c3b : (u.setCell ⟨wc.heap.size, 0, none⟩ (.int .i64 ((pre.length : Int) + 1))).cell? ⟨w.heap.size + 1, 0, none⟩ = some (.int .i64 stop) := hS.m.e.c3
                have HS := Lib.hid (And.intro hS hE)
                clear hS hE hnf hyd
                have hkf : KeepsFrom W6.heap.size W (u.setCell ⟨wc.heap.size, 0, none⟩ (.int .i64 ((pre.length : Int) + 1))) := (KeepsFrom.of_below HS.out.2.2.2).trans ((KeepsOthers.setCell _ _ _).from _)
                have hno : pre ++ [(i, y)] = items xs (pre ++ [(i, y)]).length := items_step HB.out.2.1.1 HB.out.2.2.2.2.2.1 (HB.out.2.2.2.2.2.2.1.trans HB.out.2.2.2.2.2.2.2.symm)
                have hpl : (pre ++ [(i, y)]).length = pre.length + 1 := by simp
                have HN := Lib.hid (And.intro hkf (And.intro hno hpl))
                clear hkf hno hpl
                by_cases hst : (pre.length : Int) + 1 = stop
                · subst hst
                  gi_wp2
                  refine ⟨HN.out.1, .inl ⟨rfl, ?_, ?_⟩⟩
                  · rw [HN.out.2.2]; push_cast; rfl
                  · rw [HN.out.2.2]; exact HS.out.1
                · gi_wp2
                  refine ⟨HN.out.1, (KpR.below (HS.out.2.2.2.mono HB.out.2.2.2.2.1)).setCell (.inl (by simp)) _, ⟨HN.out.2.1, by rw [HN.out.2.2]; have := HB.out.1; omega⟩, by rw [HN.out.2.2]; exact HS.out.1, Nat.le_trans HB.out.2.2.2.2.1 HN.out.1.size⟩
            · have hyd : (!decide (y = xs[i])) = true := by simp [hy]
              have HB := Lib.hid (And.intro hlen2 (And.intro hp (And.intro hG (And.intro hat (And.intro hsz (And.intro hi (And.intro hy hg)))))))
              clear hlen2 hp hG hat hsz hi hy hg
              gi_wp2
              refine AnyO.wpIn_any_tailP (.inr ⟨l, rfl⟩) 14 (by kernel_rfl) (by kernel_rfl) (by kernel_rfl) (by kernel_rfl) (by kernel_rfl) (by kernel_rfl) (fun u => G4 w A c stop xs b5 b6 wc.heap.size (some ad2) d2 x pre.length u ∧ At u ⟨Bx, 0, none⟩ (cI y) ∧ Below W.heap.size W u) (pstP [isV (.int .i64 (i : Int)), isV (.slice A xs.length c), isV (.int .i64 xs.length), isV (.int .i64 ((xs.length : Int) - 1)), isV (.int .i64 (pre.length : Int)), isV (.int .i64 ((xs.length : Int) - 1 - (pre.length : Int))), isV (.bool false), isV (.bool false), isV (vI y), isV (.slice (some ad2) xs.length d2), isV (.int .i64 (i : Int)), isV (.pointer (some (ad2.add (i * 32)))), isV (vI xs[i]), isV (.bool true)]) (⟨HB.out.2.2.1.keep (below_drew _), HB.out.2.2.2.1.keep (below_drew _), below_drew _⟩) ?_ ?_
              · intro i hi
                have hi2 : i = 0 ∨ i = 1 ∨ i = 2 ∨ i = 3 ∨ i = 4 ∨ i = 5 ∨ i = 6 ∨ i = 7 ∨ i = 8 ∨ i = 9 ∨ i = 10 ∨ i = 11 ∨ i = 12 ∨ i = 13 := by omega
                clear hi
                rcases hi2 with rfl | rfl | rfl | rfl | rfl | rfl | rfl | rfl | rfl | rfl | rfl | rfl | rfl | rfl
                · -- 0: Op.move (Operand.tmp 11)
                  refine AnyO.StepP.mk rfl [] (by kernel_rfl) ?_
                  intro vs u hE hp ac hb K hK
                  have s11 : ac.tmps[11]?.getD undef = .int .i64 (i : Int) := by rw [hb]; kernel_rfl
                  rw [if_pos (AnyO.wanted_none rfl)]
                  clear hb hp
                  go_simp
                  exact hK _ _ hE (fun _ _ _ h => h) rfl
                · -- 1: Op.load 22 (Operand.tmp 2)
                  refine AnyO.StepP.mk rfl [] (by kernel_rfl) ?_
                  intro vs u hE hp ac hb K hK
                  have s2 : ac.tmps[2]?.getD undef = .pointer (some ⟨w.heap.size, 0, none⟩) := by rw [hb]; kernel_rfl
                  rw [if_pos (AnyO.wanted_none rfl)]
                  clear hb hp
                  have c2 := hE.1.m.e.c2
                  go_simp
                  exact hK _ _ hE (fun _ _ _ h => h) rfl
                · -- 2: Op.call { callee := Callee.builtin Builtin.len, args := #[Op
                  refine AnyO.StepP.mk rfl [1] (by kernel_rfl) ?_
                  intro vs u hE hp ac hb K hK
                  have s94 : ac.tmps[94]?.getD undef = .slice A xs.length c := by rw [hb]; exact (show _ = vs 1 by kernel_rfl).trans (hp 1 (by decide))
                  rw [if_pos (AnyO.wanted_none rfl)]
                  clear hb hp
                  go_simp
                  exact hK _ _ hE (fun _ _ _ h => h) rfl
                · -- 3: Op.binOp BinOp.sub 3 (Operand.tmp 95) (Operand.const (Value.
                  refine AnyO.StepP.mk rfl [2] (by kernel_rfl) ?_
                  intro vs u hE hp ac hb K hK
                  have s95 : ac.tmps[95]?.getD undef = .int .i64 xs.length := by rw [hb]; exact (show _ = vs 2 by kernel_rfl).trans (hp 2 (by decide))
                  rw [if_pos (AnyO.wanted_none rfl)]
                  clear hb hp
                  have hl0 := HX.out.2.2
                  go_simp
                  rw [IntWalk.i64_in _ (by omega)]
                  exact hK _ _ hE (fun _ _ _ h => h) rfl
                · -- 4: Op.load 3 (Operand.tmp 10)
                  refine AnyO.StepP.mk rfl [] (by kernel_rfl) ?_
                  intro vs u hE hp ac hb K hK
                  have s10 : ac.tmps[10]?.getD undef = .pointer (some ⟨wc.heap.size, 0, none⟩) := by rw [hb]; kernel_rfl
                  rw [if_pos (AnyO.wanted_none rfl)]
                  clear hb hp
                  have c10 := hE.1.c10
                  go_simp
                  exact hK _ _ hE (fun _ _ _ h => h) rfl
                · -- 5: Op.binOp BinOp.sub 3 (Operand.tmp 96) (Operand.tmp 97) 3
                  refine AnyO.StepP.mk rfl [3, 4] (by kernel_rfl) ?_
                  intro vs u hE hp ac hb K hK
                  have s96 : ac.tmps[96]?.getD undef = .int .i64 ((xs.length : Int) - 1) := by rw [hb]; exact (show _ = vs 3 by kernel_rfl).trans (hp 3 (by decide))
                  have s97 : ac.tmps[97]?.getD undef = .int .i64 (pre.length : Int) := by rw [hb]; exact (show _ = vs 4 by kernel_rfl).trans (hp 4 (by decide))
                  rw [if_pos (AnyO.wanted_none rfl)]
                  clear hb hp
                  have hl0 := HX.out.2.2
                  have hl1 := HB.out.1
                  go_simp
                  rw [IntWalk.i64_in _ (by omega)]
                  exact hK _ _ hE (fun _ _ _ h => h) rfl
                · -- 6: Op.binOp BinOp.neq 3 (Operand.tmp 93) (Operand.tmp 98) 3
                  refine AnyO.StepP.mk rfl [0, 5] (by kernel_rfl) ?_
                  intro vs u hE hp ac hb K hK
                  have s93 : ac.tmps[93]?.getD undef = .int .i64 (i : Int) := by rw [hb]; exact (show _ = vs 0 by kernel_rfl).trans (hp 0 (by decide))
                  have s98 : ac.tmps[98]?.getD undef = .int .i64 ((xs.length : Int) - 1 - (pre.length : Int)) := by rw [hb]; exact (show _ = vs 5 by kernel_rfl).trans (hp 5 (by decide))
                  rw [if_pos (AnyO.wanted_none rfl)]
                  clear hb hp
                  go_simp
                  first | exact hK _ _ hE (fun _ _ _ h => h) rfl | (rw [hnf]; exact hK _ _ hE (fun _ _ _ h => h) rfl)
                · -- 7: Op.move (Operand.tmp 99)
                  refine AnyO.StepP.mk rfl [6] (by kernel_rfl) ?_
                  intro vs u hE hp ac hb K hK
                  have s99 : ac.tmps[99]?.getD undef = .bool false := by rw [hb]; exact (show _ = vs 6 by kernel_rfl).trans (hp 6 (by decide))
                  rw [if_pos (AnyO.wanted_none rfl)]
                  clear hb hp
                  go_simp
                  exact hK _ _ hE (fun _ _ _ h => h) rfl
                · -- 8: Op.load 33 (Operand.tmp 12)
                  refine AnyO.StepP.mk rfl [7] (by kernel_rfl) ?_
                  intro vs u hE hp ac hb K hK
                  have s12 : ac.tmps[12]?.getD undef = .pointer (some ⟨Bx, 0, none⟩) := by rw [hb]; kernel_rfl
                  have s100 : ac.tmps[100]?.getD undef = .bool false := by rw [hb]; exact (show _ = vs 7 by kernel_rfl).trans (hp 7 (by decide))
                  rw [if_pos (AnyO.wanted_some (g := 7) (t := 100) (want := false) rfl rfl s100)]
                  clear hb hp
                  have h1 := hE.2.1.ok
                  have h2 := hE.2.1.rd
                  rw [cI_length] at h1 h2
                  go_simp
                  exact hK _ _ hE (fun _ _ _ h => h) rfl
                · -- 9: Op.load 24 (Operand.tmp 5)
                  refine AnyO.StepP.mk rfl [7] (by kernel_rfl) ?_
                  intro vs u hE hp ac hb K hK
                  have s5 : ac.tmps[5]?.getD undef = .pointer (some ⟨b5, 0, none⟩) := by rw [hb]; kernel_rfl
                  have s100 : ac.tmps[100]?.getD undef = .bool false := by rw [hb]; exact (show _ = vs 7 by kernel_rfl).trans (hp 7 (by decide))
                  rw [if_pos (AnyO.wanted_some (g := 7) (t := 100) (want := false) rfl rfl s100)]
                  clear hb hp
                  have c5 := hE.1.m.c5
                  go_simp
                  exact hK _ _ hE (fun _ _ _ h => h) rfl
                · -- 10: Op.move (Operand.tmp 11)
                  refine AnyO.StepP.mk rfl [7] (by kernel_rfl) ?_
                  intro vs u hE hp ac hb K hK
                  have s11 : ac.tmps[11]?.getD undef = .int .i64 (i : Int) := by rw [hb]; kernel_rfl
                  have s100 : ac.tmps[100]?.getD undef = .bool false := by rw [hb]; exact (show _ = vs 7 by kernel_rfl).trans (hp 7 (by decide))
                  rw [if_pos (AnyO.wanted_some (g := 7) (t := 100) (want := false) rfl rfl s100)]
                  clear hb hp
                  go_simp
                  exact hK _ _ hE (fun _ _ _ h => h) rfl
                · -- 11: Op.indexAddr 24 (Operand.tmp 102) (Operand.tmp 103)
                  refine AnyO.StepP.mk rfl [9, 10, 7] (by kernel_rfl) ?_
                  intro vs u hE hp ac hb K hK
                  have s102 : ac.tmps[102]?.getD undef = .slice (some ad2) xs.length d2 := by rw [hb]; exact (show _ = vs 9 by kernel_rfl).trans (hp 9 (by decide))
                  have s103 : ac.tmps[103]?.getD undef = .int .i64 (i : Int) := by rw [hb]; exact (show _ = vs 10 by kernel_rfl).trans (hp 10 (by decide))
                  have s100 : ac.tmps[100]?.getD undef = .bool false := by rw [hb]; exact (show _ = vs 7 by kernel_rfl).trans (hp 7 (by decide))
                  rw [if_pos (AnyO.wanted_some (g := 7) (t := 100) (want := false) rfl rfl s100)]
                  clear hb hp
                  have hi1 : (0 : Int) ≤ (i : Int) := by omega
                  have hi2 : (i : Int) < (xs.length : Int) := by omega
                  go_simp
                  exact hK _ _ hE (fun _ _ _ h => h) rfl
                · -- 12: Op.load 33 (Operand.tmp 104)
                  refine AnyO.StepP.mk rfl [11, 7] (by kernel_rfl) ?_
                  intro vs u hE hp ac hb K hK
                  have s104 : ac.tmps[104]?.getD undef = .pointer (some (ad2.add (i * 32))) := by rw [hb]; exact (show _ = vs 11 by kernel_rfl).trans (hp 11 (by decide))
                  have s100 : ac.tmps[100]?.getD undef = .bool false := by rw [hb]; exact (show _ = vs 7 by kernel_rfl).trans (hp 7 (by decide))
                  rw [if_pos (AnyO.wanted_some (g := 7) (t := 100) (want := false) rfl rfl s100)]
                  clear hb hp
                  obtain ⟨ad3, h0, h1, h2⟩ := Sl.rd hE.1.m.sl.sl hil
                  obtain rfl : ad2 = ad3 := by injection h0
                  go_simp
                  exact hK _ _ hE (fun _ _ _ h => h) rfl
                · -- 13: Op.binOp BinOp.neq 33 (Operand.tmp 101) (Operand.tmp 105) 33
                  refine AnyO.StepP.mk rfl [8, 12, 7] (by kernel_rfl) ?_
                  intro vs u hE hp ac hb K hK
                  have s101 : ac.tmps[101]?.getD undef = vI y := by rw [hb]; exact (show _ = vs 8 by kernel_rfl).trans (hp 8 (by decide))
                  have s105 : ac.tmps[105]?.getD undef = vI xs[i] := by rw [hb]; exact (show _ = vs 12 by kernel_rfl).trans (hp 12 (by decide))
                  have s100 : ac.tmps[100]?.getD undef = .bool false := by rw [hb]; exact (show _ = vs 7 by kernel_rfl).trans (hp 7 (by decide))
                  rw [if_pos (AnyO.wanted_some (g := 7) (t := 100) (want := false) rfl rfl s100)]
                  clear hb hp
                  go_simp
                  first | exact hK _ _ hE (fun _ _ _ h => h) rfl | (rw [hyd]; exact hK _ _ hE (fun _ _ _ h => h) rfl)
              · intro vs u hE hp
                have e0 : vs 0 = .int .i64 (i : Int) := hp 0 (by decide)
                have e1 : vs 1 = .slice A xs.length c := hp 1 (by decide)
                have e2 : vs 2 = .int .i64 xs.length := hp 2 (by decide)
                have e3 : vs 3 = .int .i64 ((xs.length : Int) - 1) := hp 3 (by decide)
                have e4 : vs 4 = .int .i64 (pre.length : Int) := hp 4 (by decide)
                have e5 : vs 5 = .int .i64 ((xs.length : Int) - 1 - (pre.length : Int)) := hp 5 (by decide)
                have e6 : vs 6 = .bool false := hp 6 (by decide)
                have e7 : vs 7 = .bool false := hp 7 (by decide)
                have e8 : vs 8 = vI y := hp 8 (by decide)
                have e9 : vs 9 = .slice (some ad2) xs.length d2 := hp 9 (by decide)
                have e10 : vs 10 = .int .i64 (i : Int) := hp 10 (by decide)
                have e11 : vs 11 = .pointer (some (ad2.add (i * 32))) := hp 11 (by decide)
                have e12 : vs 12 = vI xs[i] := hp 12 (by decide)
                have e13 : vs 13 = .bool true := hp 13 (by decide)
                clear hp
                rw [puts_range [some 93, some 94, some 95, some 96, some 97, some 98, some 99, some 100, some 101, some 102, some 103, some 104, some 105, some 106] (by kernel_rfl)]
                simp only [putL, Nat.reduceAdd, List.drop_succ_cons, List.drop_zero, e0, e1, e2, e3, e4, e5, e6, e7, e8, e9, e10, e11, e12, e13]
                clear e0 e1 e2 e3 e4 e5 e6 e7 e8 e9 e10 e11 e12 e13
                go_simp
                have c4 := hE.1.m.e.c4
                have f4 := hE.1.m.e.f4
                have HS := Lib.hid hE
                clear hE hnf hyd
                gi_wp2
                exact ⟨(KeepsFrom.of_below HS.out.2.2).trans ((KeepsOthers.setCell _ _ _).from _), .inr ⟨rfl, items_no (fun h => HB.out.2.2.2.2.2.2.1 (h.2.trans HB.out.2.2.2.2.2.2.2))⟩⟩
          · have hnf : ((i : Int) != (xs.length : Int) - 1 - (pre.length : Int)) = true := by simp; omega
            have HB := Lib.hid (And.intro hlen2 (And.intro hp (And.intro hG (And.intro hat (And.intro hsz hi)))))
            clear hlen2 hp hG hat hsz hi
            gi_wp2
            refine AnyO.wpIn_any_tailP (.inr ⟨l, rfl⟩) 14 (by kernel_rfl) (by kernel_rfl) (by kernel_rfl) (by kernel_rfl) (by kernel_rfl) (by kernel_rfl) (fun u => G4 w A c stop xs b5 b6 wc.heap.size A2 d2 x pre.length u ∧ At u ⟨Bx, 0, none⟩ (cI y) ∧ Below W.heap.size W u) (pstP [isV (.int .i64 (i : Int)), isV (.slice A xs.length c), isV (.int .i64 xs.length), isV (.int .i64 ((xs.length : Int) - 1)), isV (.int .i64 (pre.length : Int)), isV (.int .i64 ((xs.length : Int) - 1 - (pre.length : Int))), isV (.bool true), isV (.bool true), isV (undef), isV (undef), isV (undef), isV (undef), isV (undef), isV (undef)]) (⟨HB.out.2.2.1.keep (below_drew _), HB.out.2.2.2.1.keep (below_drew _), below_drew _⟩) ?_ ?_
            · intro i hi
              have hi2 : i = 0 ∨ i = 1 ∨ i = 2 ∨ i = 3 ∨ i = 4 ∨ i = 5 ∨ i = 6 ∨ i = 7 ∨ i = 8 ∨ i = 9 ∨ i = 10 ∨ i = 11 ∨ i = 12 ∨ i = 13 := by omega
              clear hi
              rcases hi2 with rfl | rfl | rfl | rfl | rfl | rfl | rfl | rfl | rfl | rfl | rfl | rfl | rfl | rfl
              · -- 0: Op.move (Operand.tmp 11)
                refine AnyO.StepP.mk rfl [] (by kernel_rfl) ?_
                intro vs u hE hp ac hb K hK
                have s11 : ac.tmps[11]?.getD undef = .int .i64 (i : Int) := by rw [hb]; kernel_rfl
                rw [if_pos (AnyO.wanted_none rfl)]
                clear hb hp
                go_simp
                exact hK _ _ hE (fun _ _ _ h => h) rfl
              · -- 1: Op.load 22 (Operand.tmp 2)
                refine AnyO.StepP.mk rfl [] (by kernel_rfl) ?_
                intro vs u hE hp ac hb K hK
                have s2 : ac.tmps[2]?.getD undef = .pointer (some ⟨w.heap.size, 0, none⟩) := by rw [hb]; kernel_rfl
                rw [if_pos (AnyO.wanted_none rfl)]
                clear hb hp
                have c2 := hE.1.m.e.c2
                go_simp
                exact hK _ _ hE (fun _ _ _ h => h) rfl
              · -- 2: Op.call { callee := Callee.builtin Builtin.len, args := #[Op
                refine AnyO.StepP.mk rfl [1] (by kernel_rfl) ?_
                intro vs u hE hp ac hb K hK
                have s94 : ac.tmps[94]?.getD undef = .slice A xs.length c := by rw [hb]; exact (show _ = vs 1 by kernel_rfl).trans (hp 1 (by decide))
                rw [if_pos (AnyO.wanted_none rfl)]
                clear hb hp
                go_simp
                exact hK _ _ hE (fun _ _ _ h => h) rfl
              · -- 3: Op.binOp BinOp.sub 3 (Operand.tmp 95) (Operand.const (Value.
                refine AnyO.StepP.mk rfl [2] (by kernel_rfl) ?_
                intro vs u hE hp ac hb K hK
                have s95 : ac.tmps[95]?.getD undef = .int .i64 xs.length := by rw [hb]; exact (show _ = vs 2 by kernel_rfl).trans (hp 2 (by decide))
                rw [if_pos (AnyO.wanted_none rfl)]
                clear hb hp
                have hl0 := HX.out.2.2
                go_simp
                rw [IntWalk.i64_in _ (by omega)]
                exact hK _ _ hE (fun _ _ _ h => h) rfl
              · -- 4: Op.load 3 (Operand.tmp 10)
                refine AnyO.StepP.mk rfl [] (by kernel_rfl) ?_
                intro vs u hE hp ac hb K hK
                have s10 : ac.tmps[10]?.getD undef = .pointer (some ⟨wc.heap.size, 0, none⟩) := by rw [hb]; kernel_rfl
                rw [if_pos (AnyO.wanted_none rfl)]
                clear hb hp
                have c10 := hE.1.c10
                go_simp
                exact hK _ _ hE (fun _ _ _ h => h) rfl
              · -- 5: Op.binOp BinOp.sub 3 (Operand.tmp 96) (Operand.tmp 97) 3
                refine AnyO.StepP.mk rfl [3, 4] (by kernel_rfl) ?_
                intro vs u hE hp ac hb K hK
                have s96 : ac.tmps[96]?.getD undef = .int .i64 ((xs.length : Int) - 1) := by rw [hb]; exact (show _ = vs 3 by kernel_rfl).trans (hp 3 (by decide))
                have s97 : ac.tmps[97]?.getD undef = .int .i64 (pre.length : Int) := by rw [hb]; exact (show _ = vs 4 by kernel_rfl).trans (hp 4 (by decide))
                rw [if_pos (AnyO.wanted_none rfl)]
                clear hb hp
                have hl0 := HX.out.2.2
                have hl1 := HB.out.1
                go_simp
                rw [IntWalk.i64_in _ (by omega)]
                exact hK _ _ hE (fun _ _ _ h => h) rfl
              · -- 6: Op.binOp BinOp.neq 3 (Operand.tmp 93) (Operand.tmp 98) 3
                refine AnyO.StepP.mk rfl [0, 5] (by kernel_rfl) ?_
                intro vs u hE hp ac hb K hK
                have s93 : ac.tmps[93]?.getD undef = .int .i64 (i : Int) := by rw [hb]; exact (show _ = vs 0 by kernel_rfl).trans (hp 0 (by decide))
                have s98 : ac.tmps[98]?.getD undef = .int .i64 ((xs.length : Int) - 1 - (pre.length : Int)) := by rw [hb]; exact (show _ = vs 5 by kernel_rfl).trans (hp 5 (by decide))
                rw [if_pos (AnyO.wanted_none rfl)]
                clear hb hp
                go_simp
                first | exact hK _ _ hE (fun _ _ _ h => h) rfl | (rw [hnf]; exact hK _ _ hE (fun _ _ _ h => h) rfl)
              · -- 7: Op.move (Operand.tmp 99)
                refine AnyO.StepP.mk rfl [6] (by kernel_rfl) ?_
                intro vs u hE hp ac hb K hK
                have s99 : ac.tmps[99]?.getD undef = .bool true := by rw [hb]; exact (show _ = vs 6 by kernel_rfl).trans (hp 6 (by decide))
                rw [if_pos (AnyO.wanted_none rfl)]
                clear hb hp
                go_simp
                exact hK _ _ hE (fun _ _ _ h => h) rfl
              · -- 8: Op.load 33 (Operand.tmp 12)
                refine AnyO.StepP.mk rfl [7] (by kernel_rfl) ?_
                intro vs u hE hp ac hb K hK
                have s100 : ac.tmps[100]?.getD undef = .bool true := by rw [hb]; exact (show _ = vs 7 by kernel_rfl).trans (hp 7 (by decide))
                rw [if_neg (AnyO.wanted_no (g := 7) (t := 100) (want := false) rfl rfl s100)]
                clear hb hp
                exact hK _ _ hE (fun _ _ _ h => h) rfl
              · -- 9: Op.load 24 (Operand.tmp 5)
                refine AnyO.StepP.mk rfl [7] (by kernel_rfl) ?_
                intro vs u hE hp ac hb K hK
                have s100 : ac.tmps[100]?.getD undef = .bool true := by rw [hb]; exact (show _ = vs 7 by kernel_rfl).trans (hp 7 (by decide))
                rw [if_neg (AnyO.wanted_no (g := 7) (t := 100) (want := false) rfl rfl s100)]
                clear hb hp
                exact hK _ _ hE (fun _ _ _ h => h) rfl
              · -- 10: Op.move (Operand.tmp 11)
                refine AnyO.StepP.mk rfl [7] (by kernel_rfl) ?_
                intro vs u hE hp ac hb K hK
                have s100 : ac.tmps[100]?.getD undef = .bool true := by rw [hb]; exact (show _ = vs 7 by kernel_rfl).trans (hp 7 (by decide))
                rw [if_neg (AnyO.wanted_no (g := 7) (t := 100) (want := false) rfl rfl s100)]
                clear hb hp
                exact hK _ _ hE (fun _ _ _ h => h) rfl
              · -- 11: Op.indexAddr 24 (Operand.tmp 102) (Operand.tmp 103)
                refine AnyO.StepP.mk rfl [9, 10, 7] (by kernel_rfl) ?_
                intro vs u hE hp ac hb K hK
                have s100 : ac.tmps[100]?.getD undef = .bool true := by rw [hb]; exact (show _ = vs 7 by kernel_rfl).trans (hp 7 (by decide))
                rw [if_neg (AnyO.wanted_no (g := 7) (t := 100) (want := false) rfl rfl s100)]
                clear hb hp
                exact hK _ _ hE (fun _ _ _ h => h) rfl
              · -- 12: Op.load 33 (Operand.tmp 104)
                refine AnyO.StepP.mk rfl [11, 7] (by kernel_rfl) ?_
                intro vs u hE hp ac hb K hK
                have s100 : ac.tmps[100]?.getD undef = .bool true := by rw [hb]; exact (show _ = vs 7 by kernel_rfl).trans (hp 7 (by decide))
                rw [if_neg (AnyO.wanted_no (g := 7) (t := 100) (want := false) rfl rfl s100)]
                clear hb hp
                exact hK _ _ hE (fun _ _ _ h => h) rfl
              · -- 13: Op.binOp BinOp.neq 33 (Operand.tmp 101) (Operand.tmp 105) 33
                refine AnyO.StepP.mk rfl [8, 12, 7] (by kernel_rfl) ?_
                intro vs u hE hp ac hb K hK
                have s100 : ac.tmps[100]?.getD undef = .bool true := by rw [hb]; exact (show _ = vs 7 by kernel_rfl).trans (hp 7 (by decide))
                rw [if_neg (AnyO.wanted_no (g := 7) (t := 100) (want := false) rfl rfl s100)]
                clear hb hp
                exact hK _ _ hE (fun _ _ _ h => h) rfl
            · intro vs u hE hp
              have e0 : vs 0 = .int .i64 (i : Int) := hp 0 (by decide)
              have e1 : vs 1 = .slice A xs.length c := hp 1 (by decide)
              have e2 : vs 2 = .int .i64 xs.length := hp 2 (by decide)
              have e3 : vs 3 = .int .i64 ((xs.length : Int) - 1) := hp 3 (by decide)
              have e4 : vs 4 = .int .i64 (pre.length : Int) := hp 4 (by decide)
              have e5 : vs 5 = .int .i64 ((xs.length : Int) - 1 - (pre.length : Int)) := hp 5 (by decide)
              have e6 : vs 6 = .bool true := hp 6 (by decide)
              have e7 : vs 7 = .bool true := hp 7 (by decide)
              have e8 : vs 8 = undef := hp 8 (by decide)
              have e9 : vs 9 = undef := hp 9 (by decide)
              have e10 : vs 10 = undef := hp 10 (by decide)
              have e11 : vs 11 = undef := hp 11 (by decide)
              have e12 : vs 12 = undef := hp 12 (by decide)
              have e13 : vs 13 = undef := hp 13 (by decide)
              clear hp
              rw [puts_range [some 93, some 94, some 95, some 96, some 97, some 98, some 99, some 100, some 101, some 102, some 103, some 104, some 105, some 106] (by kernel_rfl)]
              simp only [putL, Nat.reduceAdd, List.drop_succ_cons, List.drop_zero, e0, e1, e2, e3, e4, e5, e6, e7, e8, e9, e10, e11, e12, e13]
              clear e0 e1 e2 e3 e4 e5 e6 e7 e8 e9 e10 e11 e12 e13
              go_simp
              have c4 := hE.1.m.e.c4
              have f4 := hE.1.m.e.f4
              have HS := Lib.hid hE
              clear hE hnf
              gi_wp2
              exact ⟨(KeepsFrom.of_below HS.out.2.2).trans ((KeepsOthers.setCell _ _ _).from _), .inr ⟨rfl, items_no (fun h => HB.out.2.2.2.2.2 h.1)⟩⟩
        case done =>
          rintro D ys W hD rfl ⟨hp, hG, _⟩ hK
          exact (hrest D W xs.length hD (by rw [items_length] at hG; exact hG) (.inl rfl) hK).1
        case stop =>
          rintro D co pre W hD ⟨k, hk, rfl⟩ hI hK
          rcases hI with ⟨rfl, hs, hG⟩ | ⟨_, hI⟩
          · exact wpIn_exit (hrest D W _ hD hG (.inr hs) hK).2
          · exact absurd ⟨k, hk, rfl⟩ hI
end Go.Proofs.Ytcchpenaiomeeaa
