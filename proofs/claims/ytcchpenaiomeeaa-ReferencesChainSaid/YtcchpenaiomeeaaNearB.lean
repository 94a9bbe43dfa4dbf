/- Nearest: the last element that is accepted, with how many stand behind it. -/
import Derived.Test.YtcchpenaiomeeaaNearA
import Derived.Test.YtcchpenaiomeeaaTailP
import Derived.Test.YtcchpenaiomeeaaPst
import Derived.Test.YtcchpenaiomeeaaMid
import Derived.BigQuiet
namespace Go.Proofs.Ytcchpenaiomeeaa
open Go.RowKit
attribute [local go_sem] Oper.semAt_some
/-- Half of the identities. -/
def acc (x : Id) : Bool := (((x.1.getD 31 0).toNat : Int) % 2 == 1)
/-- What Nearest returns: the last accepted element, or the zero identity. -/
def NearP (p : Id → Bool) (xs : List Id) (e : Ending) : Prop :=
  (∃ k, k < xs.length ∧ p (xs.getD k zI) = true ∧ (∀ j, k < j → j < xs.length → p (xs.getD j zI) = false) ∧ e = .returned (.tuple #[vI (xs.getD k zI), .int .i64 ((xs.length : Int) - 1 - k), .bool true])) ∨
  ((∀ j, j < xs.length → p (xs.getD j zI) = false) ∧ e = .returned (.tuple #[vI zI, .int .i64 xs.length, .bool false]))
theorem yes36 (x : Id) (w : World) : Calls Try.prog 36 #[vI x] w fun e w' => e = .returned (.bool true) ∧ Below w.heap.size w w' := by
  go_enter Try.func36, Try.ntmps36
  go_wp2
  go_ret
  exact ⟨rfl, below_alloc _ _⟩
theorem aI_get (x : Id) (k : Nat) (hk : k < 32) : (aI x)[k]? = some (.int .u8 ((x.1.getD k 0).toNat : Int)) := by
  have h : k < x.1.length := by rw [x.2]; exact hk
  simp [aI, cI, List.getElem?_map, List.getElem?_eq_getElem h, cB]
theorem rem2 (b : UInt8) (w : World) : Sem.run Try.prog (binOp .rem 5 (.int .u8 (b.toNat : Int)) (.int .u8 2)) w = .ok (.int .u8 ((b.toNat % 2 : Nat) : Int)) w := by
  simp [go_sem, binOp]
  exact Int.tmod_eq_emod_of_nonneg (Int.natCast_nonneg _)
theorem accepted18 (x : Id) (w : World) : Calls Try.prog 18 #[vI x] w fun e w' => e = .returned (.bool (acc x)) ∧ Below w.heap.size w w' := by
  have hx31 := aI_get x 31 (by decide)
  have hr2 := rem2 (x.1.getD 31 0)
  go_enter Try.func18, Try.ntmps18
  go_wp2
  go_ret
  refine ⟨ret_bool ?_, below_alloc _ _⟩
  unfold acc
  simp
structure Fr (W : World) (s : Nat) (v u : Value) : Prop where
  c2 : W.cell? ⟨s, 0, none⟩ = some v
  c3 : W.cell? ⟨s + 1, 0, none⟩ = some u
  r4 : rowOk W (s + 1 + 1) 32 = true
  c5 : W.cell? ⟨s + 1 + 1 + 1, 0, none⟩ = some (.int .i64 0)
  f5 : W.frozen? ⟨s + 1 + 1 + 1, 0, none⟩ = false
  c6 : W.cell? ⟨s + 1 + 1 + 1 + 1, 0, none⟩ = some (.bool false)
  f6 : W.frozen? ⟨s + 1 + 1 + 1 + 1, 0, none⟩ = false
theorem Fr.same {W W' : World} {s : Nat} {v u : Value} (h : Fr W s v u) (hb : ∀ k, s ≤ k → k < s + 5 → W'.heap[k]? = W.heap[k]?) : Fr W' s v u where
  c2 := (World.cell?_of_block (hb _ (by dsimp only; omega) (by dsimp only; omega))).trans h.c2
  c3 := (World.cell?_of_block (hb _ (by dsimp only; omega) (by dsimp only; omega))).trans h.c3
  r4 := by have := h.r4; unfold rowOk at *; rw [hb _ (by omega) (by omega)]; exact this
  c5 := (World.cell?_of_block (hb _ (by dsimp only; omega) (by dsimp only; omega))).trans h.c5
  f5 := (World.frozen?_of_block (hb _ (by dsimp only; omega) (by dsimp only; omega))).trans h.f5
  c6 := (World.cell?_of_block (hb _ (by dsimp only; omega) (by dsimp only; omega))).trans h.c6
  f6 := (World.frozen?_of_block (hb _ (by dsimp only; omega) (by dsimp only; omega))).trans h.f6
theorem Fr.keep {W W' : World} {s B : Nat} {v u : Value} (h : Fr W s v u) (hs : s + 5 ≤ B) (hb : Below B W W') : Fr W' s v u := h.same fun k _ h2 => hb.block k (by omega)
theorem Fr.setRow {W : World} {s : Nat} {v u : Value} (h : Fr W s v u) (cs : Array Value) (hn : cs.size = 32) : Fr (W.setRow (s + 1 + 1) cs) s v u := by
  have hb : ∀ k, k ≠ s + 1 + 1 → (W.setRow (s + 1 + 1) cs).heap[k]? = W.heap[k]? := fun k hk => by
    simp only [World.setRow, Array.getElem?_modify]
    rw [if_neg (Ne.symm hk)]
  exact {
    c2 := (World.cell?_of_block (hb _ (by dsimp only; omega))).trans h.c2
    c3 := (World.cell?_of_block (hb _ (by dsimp only; omega))).trans h.c3
    r4 := rowOk_setRow cs h.r4 hn
    c5 := (World.cell?_of_block (hb _ (by dsimp only; omega))).trans h.c5
    f5 := (World.frozen?_of_block (hb _ (by dsimp only; omega))).trans h.f5
    c6 := (World.cell?_of_block (hb _ (by dsimp only; omega))).trans h.c6
    f6 := (World.frozen?_of_block (hb _ (by dsimp only; omega))).trans h.f6 }
def W17 (w : World) (v u : Value) : World := ((((w.alloc (.cells #[v] 24)).alloc (.cells #[u] 37)).alloc (.cells (aI zI) 33)).alloc (.cells #[.int .i64 0] 3)).alloc (.cells #[.bool false] 4)
theorem fr_new (w : World) (v u : Value) : Fr (W17 w v u) w.heap.size v u ∧ Below w.heap.size w (W17 w v u) ∧ (W17 w v u).heap.size = w.heap.size + 5 := by
  refine ⟨⟨?_, ?_, ?_, ?_, ?_, ?_, ?_⟩, ?_, ?_⟩
  all_goals unfold W17
  · exact ((((Boxed.new w 24 v).alloc _).alloc _).alloc _).alloc _ |>.cell
  · have b := Boxed.new (w.alloc (.cells #[v] 24)) 37 u
    rw [World.size_alloc] at b
    exact (((b.alloc _).alloc _).alloc _).cell
  · rw [rowOk_alloc _ _ _ _ (by simp), rowOk_alloc _ _ _ _ (by simp), rowOk_newI _ _ _ _ (by simp)]
  · have b := Boxed.new (((w.alloc (.cells #[v] 24)).alloc (.cells #[u] 37)).alloc (.cells (aI zI) 33)) 3 (.int .i64 0)
    simp only [World.size_alloc] at b
    exact (b.alloc _).cell
  · have b := Boxed.new (((w.alloc (.cells #[v] 24)).alloc (.cells #[u] 37)).alloc (.cells (aI zI) 33)) 3 (.int .i64 0)
    simp only [World.size_alloc] at b
    exact (b.alloc _).frozen
  · have b := Boxed.new ((((w.alloc (.cells #[v] 24)).alloc (.cells #[u] 37)).alloc (.cells (aI zI) 33)).alloc (.cells #[.int .i64 0] 3)) 4 (.bool false)
    simp only [World.size_alloc] at b
    exact b.cell
  · have b := Boxed.new ((((w.alloc (.cells #[v] 24)).alloc (.cells #[u] 37)).alloc (.cells (aI zI) 33)).alloc (.cells #[.int .i64 0] 3)) 4 (.bool false)
    simp only [World.size_alloc] at b
    exact b.frozen
  · exact ((((below_alloc w _).alloc (by simp) _).alloc (by simp; omega) _).alloc (by simp; omega) _).alloc (by simp; omega) _
  · simp
theorem At.kept {W W' : World} {row : Option Nat} {ad : Addr} {cs : List Value} (h : At W ad cs) (hg : W.grownBy W' row) (hrow : ∀ r, row = some r → ∃ o : Obj, W.heap[r]? = some o ∧ o.isCells = false) : At W' ad cs :=
  ⟨Nat.lt_of_lt_of_le h.1 hg.size, fun j u hu => cell_kept (h.2 j u hu) hg hrow⟩
theorem At.same {W W' : World} {ad : Addr} {cs : List Value} (h : At W ad cs) (hs : W.heap.size ≤ W'.heap.size) (hb : W'.heap[ad.block]? = W.heap[ad.block]?) : At W' ad cs :=
  ⟨Nat.lt_of_lt_of_le h.1 hs, fun j u hu => (World.cell?_of_block (by rw [block_of_add]; exact hb)).trans (h.2 j u hu)⟩
theorem At.setOther {W : World} {ad : Addr} {cs : List Value} (h : At W ad cs) (p : Addr) (v : Value) (hne : ad.block ≠ p.block) : At (W.setCell p v) ad cs :=
  h.same (by simp [World.setCell]) (Below.heap_setCell W p v _ hne)
/-- What is kept through region 7: the frame, the round's own element, the other blocks. -/
structure NInv (w w1 W : World) (v f : Value) (Bx : Nat) (y : Id) (u : World) : Prop where
  fr : Fr u w.heap.size v f
  at_ : At u ⟨Bx, 0, none⟩ (cI y)
  kf : KeepsFrom w1.heap.size W u
  bl : Below w.heap.size w u
  lt : w.heap.size + 5 ≤ w1.heap.size
  bx : w1.heap.size ≤ Bx
theorem NInv.ok {w w1 W : World} {v f : Value} {Bx : Nat} {y : Id} {u : World} (h : NInv w w1 W v f Bx y u) : okA u ⟨Bx, 0, none⟩ 32 = true := by have := h.at_.ok; rwa [cI_length] at this
theorem NInv.rd {w w1 W : World} {v f : Value} {Bx : Nat} {y : Id} {u : World} (h : NInv w w1 W v f Bx y u) : rdA u ⟨Bx, 0, none⟩ 32 = vI y := by have := h.at_.rd; rwa [cI_length] at this
theorem NInv.drew {w w1 W : World} {v f : Value} {Bx : Nat} {y : Id} {u : World} (h : NInv w w1 W v f Bx y u) : NInv w w1 W v f Bx y u.drew :=
  ⟨h.fr.same (fun _ _ _ => rfl), h.at_.same (Nat.le_refl _) rfl, ⟨h.kf.size, h.kf.same⟩, h.bl.drew, h.lt, h.bx⟩
theorem NInv.setRow {w w1 W : World} {v f : Value} {Bx : Nat} {y : Id} {u : World} (h : NInv w w1 W v f Bx y u) (z : Id) : NInv w w1 W v f Bx y (u.setRow (w.heap.size + 1 + 1) (aI z)) := by
  have hb : ∀ k, k ≠ w.heap.size + 1 + 1 → (u.setRow (w.heap.size + 1 + 1) (aI z)).heap[k]? = u.heap[k]? := fun k hk => by
    simp only [World.setRow, Array.getElem?_modify]
    rw [if_neg (Ne.symm hk)]
  have h1 := h.lt
  have h2 := h.bx
  refine ⟨h.fr.setRow _ (aI_size z), h.at_.same (by simp [World.setRow]) (hb _ (by dsimp only; omega)), ⟨by have := h.kf.size; simpa [World.setRow] using this, fun k o hk ho hc => ?_⟩, Below.setRow h.bl (by omega) _, h1, h2⟩
  rw [hb k (by omega)]
  exact h.kf.same k o hk ho hc
/-- The values of region 7 speak of no world. -/
theorem near_posts {a b c d e g : Value} {w u u' : World} {z : Id} {j : Nat} {v : Value} (hj : j ≠ 6)
    (h : pstP [isV a, isV b, isV c, isV d, isV e, isV g, fun _ u => At u ⟨w.heap.size + 1 + 1, 0, none⟩ (cI z)] j v u) : pstP [isV a, isV b, isV c, isV d, isV e, isV g, fun _ u => At u ⟨w.heap.size + 1 + 1, 0, none⟩ (cI z)] j v u' := by
  match j, hj, h with
  | 0, _, h => exact h
  | 1, _, h => exact h
  | 2, _, h => exact h
  | 3, _, h => exact h
  | 4, _, h => exact h
  | 5, _, h => exact h
  | _ + 7, _, _ => trivial
theorem near_posts8 {a b c : Value} {w u u' : World} {z : Id} {j : Nat} {v : Value} (hj : j ≠ 3)
    (h : pstP [isV a, isV b, isV c, fun _ u => At u ⟨w.heap.size + 1 + 1, 0, none⟩ (cI z)] j v u) : pstP [isV a, isV b, isV c, fun _ u => At u ⟨w.heap.size + 1 + 1, 0, none⟩ (cI z)] j v u' := by
  match j, hj, h with
  | 0, _, h => exact h
  | 1, _, h => exact h
  | 2, _, h => exact h
  | _ + 4, _, _ => trivial
/-- What is kept through region 8. -/
structure EInv (w W : World) (v f : Value) (u : World) : Prop where
  fr : Fr u w.heap.size v f
  kf : KeepsFrom (w.heap.size + 5) W u
  bl : Below w.heap.size w u
theorem EInv.drew {w W : World} {v f : Value} {u : World} (h : EInv w W v f u) : EInv w W v f u.drew := ⟨h.fr.same (fun _ _ _ => rfl), ⟨h.kf.size, h.kf.same⟩, h.bl.drew⟩
theorem EInv.setRow {w W : World} {v f : Value} {u : World} (h : EInv w W v f u) (z : Id) : EInv w W v f (u.setRow (w.heap.size + 1 + 1) (aI z)) := by
  refine ⟨h.fr.setRow _ (aI_size z), ⟨by have := h.kf.size; simpa [World.setRow] using this, fun k o hk ho hc => ?_⟩, Below.setRow h.bl (by omega) _⟩
  have hb : (u.setRow (w.heap.size + 1 + 1) (aI z)).heap[k]? = u.heap[k]? := by
    simp only [World.setRow, Array.getElem?_modify]
    rw [if_neg (by omega)]
  rw [hb]
  exact h.kf.same k o hk ho hc
theorem KeepsFrom.of_below {B : Nat} {W W' : World} (h : Below W.heap.size W W') : KeepsFrom B W W' := ⟨h.size, fun k _ _ ho _ => (h.block k (Array.getElem?_eq_some_iff.1 ho).1).trans ho⟩
theorem NInv.keep {w w1 W : World} {v f : Value} {Bx : Nat} {y : Id} {u u' : World} (h : NInv w w1 W v f Bx y u) (hs : w.heap.size + 5 ≤ u.heap.size) (hb : Below u.heap.size u u') : NInv w w1 W v f Bx y u' :=
  ⟨h.fr.keep hs hb, h.at_.keep hb, h.kf.trans (KeepsFrom.of_below hb), h.bl.trans (hb.mono h.bl.size), h.lt, h.bx⟩
theorem has_call (f : Nat) (p : Id → Bool) (hf : (f = 18 ∧ p = acc) ∨ (f = 36 ∧ p = fun _ => true)) (x : Id) (w : World) : Calls Try.prog f #[vI x] w fun e w' => e = .returned (.bool (p x)) ∧ Below w.heap.size w w' := by
  rcases hf with ⟨rfl, rfl⟩ | ⟨rfl, rfl⟩
  · exact accepted18 x w
  · exact yes36 x w
theorem has_enter (f : Nat) (p : Id → Bool) (hf : (f = 18 ∧ p = acc) ∨ (f = 36 ∧ p = fun _ => true)) (args : Array Value) (w : World) : Sem.run Try.prog (callFunc f args) w = .ok (.enter f args) w := by
  rcases hf with ⟨rfl, rfl⟩ | ⟨rfl, rfl⟩
  · exact enters_of Try.func18 (by kernel_rfl) rfl args w
  · exact enters_of Try.func36 (by kernel_rfl) rfl args w
/-- How the walk of Nearest ends in a round that finds one. -/
def NIx (w : World) (p : Id → Bool) (n : Nat) (c : Code) (pre : List (Nat × Id)) (W : World) : Prop :=
  (c = .ret ∧ ∃ (ini : List (Nat × Id)) (last : Nat × Id), pre = ini ++ [last] ∧ (∀ q ∈ ini, p q.2 = false) ∧ p last.2 = true ∧ At W ⟨w.heap.size + 1 + 1, 0, none⟩ (cI last.2) ∧ W.cell? ⟨w.heap.size + 1 + 1 + 1, 0, none⟩ = some (.int .i64 (wrap64 ((n : Int) - 1 - last.1))) ∧
    W.cell? ⟨w.heap.size + 1 + 1 + 1 + 1, 0, none⟩ = some (.bool true)) ∧ Below w.heap.size w W
theorem near_ret {w w1 W u : World} {v f : Value} {Bx n : Nat} {x : Nat × Id} {pre : List (Nat × Id)} {p : Id → Bool} (hp : ∀ q ∈ pre, p q.2 = false) (hpx : p x.2 = true) (hE : NInv w w1 W v f Bx x.2 u) (h6 : At u ⟨w.heap.size + 1 + 1, 0, none⟩ (cI x.2)) :
    KeepsFrom w1.heap.size W ((u.setCell ⟨w.heap.size + 1 + 1 + 1, 0, none⟩ (.int .i64 (wrap64 ((n : Int) - 1 - x.1)))).setCell ⟨w.heap.size + 1 + 1 + 1 + 1, 0, none⟩ (.bool true)) ∧
      NIx w p n .ret (pre ++ [x]) ((u.setCell ⟨w.heap.size + 1 + 1 + 1, 0, none⟩ (.int .i64 (wrap64 ((n : Int) - 1 - x.1)))).setCell ⟨w.heap.size + 1 + 1 + 1 + 1, 0, none⟩ (.bool true)) := by
  have h1 := hE.lt
  refine ⟨hE.kf.trans (((KeepsOthers.setCell _ _ _).from _).trans ((KeepsOthers.setCell _ _ _).from _)), ⟨rfl, pre, x, rfl, hp, hpx, ?_, ?_, ?_⟩, (hE.bl.setCell (p := ⟨w.heap.size + 1 + 1 + 1, 0, none⟩) (by simp; omega) _).setCell (p := ⟨w.heap.size + 1 + 1 + 1 + 1, 0, none⟩) (by simp; omega) _⟩
  · exact (h6.setOther _ _ (by simp)).setOther _ _ (by simp)
  · rw [World.cell?_setCell_other _ _ _ _ (by simp), World.cell?_setCell_same' _ _ _ (by rw [hE.fr.c5]; rfl)]
  · rw [World.cell?_setCell_same' _ _ _ (by rw [World.cell?_setCell_other _ _ _ _ (by simp), hE.fr.c6]; rfl)]
theorem results_c33 {P : Program} {fn : Func} {tmps : Array Value} {w : World} {a b c : Tmp} {t u v : TypeId} {ad bd cd : Addr} {x y z : Value} (hres : fn.results = #[.cell a t, .cell b u, .cell c v])
    (h1 : tmps[a]?.getD undef = .pointer (some ad)) (l1 : (loadVar t ad).run P w = .ok x w) (h2 : tmps[b]?.getD undef = .pointer (some bd)) (l2 : (loadVar u bd).run P w = .ok y w) (h3 : tmps[c]?.getD undef = .pointer (some cd)) (l3 : (loadVar v cd).run P w = .ok z w) :
    (results fn tmps).run P w = .ok (.tuple #[x, y, z]) w := by
  simp [results, hres, h1, h2, h3, l1, l2, l3, asAddr]
theorem near_end {w U : World} {xs : List Id} {p : Id → Bool} {x : Id} {m : Int} {ok : Bool} {tmps : Array Value} {D : Nat} (h4 : tmps[4]?.getD undef = .pointer (some ⟨w.heap.size + 1 + 1, 0, none⟩)) (h5 : tmps[5]?.getD undef = .pointer (some ⟨w.heap.size + 1 + 1 + 1, 0, none⟩))
    (h6 : tmps[6]?.getD undef = .pointer (some ⟨w.heap.size + 1 + 1 + 1 + 1, 0, none⟩)) (hat : At U ⟨w.heap.size + 1 + 1, 0, none⟩ (cI x)) (hc5 : U.cell? ⟨w.heap.size + 1 + 1 + 1, 0, none⟩ = some (.int .i64 m)) (hc6 : U.cell? ⟨w.heap.size + 1 + 1 + 1 + 1, 0, none⟩ = some (.bool ok))
    (hK : U.heap[D]? = some (.deferred (some []))) (hD : w.heap.size ≤ D) (hb : Below w.heap.size w U) (hN : NearP p xs (.returned (.tuple #[vI x, .int .i64 m, .bool ok]))) :
    LeavesInM Fence.wide 5 Try.prog Try.f17 tmps (fun e w' => NearP p xs e ∧ Below w.heap.size w w') [{ target := .collected D, args := #[] }] .returning U := by
  refine ⟨by simp, .inl ⟨_, _, rfl, run_takeDeferred hK, ?_⟩⟩
  have hr : ∀ r, some D = some r → ∃ o : Obj, U.heap[r]? = some o ∧ o.isCells = false := fun r e => by cases e; exact ⟨_, hK, rfl⟩
  have k5 := cell_kept hc5 (grownBy_putObj' _ D (.deferred none)) hr
  have k6 := cell_kept hc6 (grownBy_putObj' _ D (.deferred none)) hr
  exact ⟨_, results_c33 rfl h4 (load_id (hat.kept (grownBy_putObj' _ D (.deferred none)) hr)) h5 (by simp [go_sem, k5]) h6 (by simp [go_sem, k6]), hN, hb.trans (belowK_b (w := w) (Nat.le_refl _) U D _ _ hD hK rfl rfl)⟩
theorem near_no {p : Id → Bool} {xs : List Id} (h : ∀ q ∈ items xs xs.length, p q.2 = false) : NearP p xs (.returned (.tuple #[vI zI, .int .i64 xs.length, .bool false])) := by
  refine .inr ⟨fun j hj => ?_, rfl⟩
  refine h (j, xs.getD j zI) (List.mem_map.2 ⟨xs.length - 1 - j, List.mem_range.2 (by omega), ?_⟩)
  rw [show xs.length - 1 - (xs.length - 1 - j) = j by omega]
theorem near_yes {p : Id → Bool} {xs : List Id} {k : Nat} (hk : k ≤ xs.length) {ini : List (Nat × Id)} {last : Nat × Id} (he : items xs k = ini ++ [last]) (hi : ∀ q ∈ ini, p q.2 = false) (hl : p last.2 = true) (hx : xs.length ≤ 1000) :
    NearP p xs (.returned (.tuple #[vI last.2, .int .i64 (wrap64 ((xs.length : Int) - 1 - last.1)), .bool true])) := by
  obtain ⟨k', rfl⟩ : ∃ k', k = k' + 1 := by
    cases k with
    | zero => simp [items] at he
    | succ k' => exact ⟨k', rfl⟩
  rw [items_succ] at he
  obtain ⟨rfl, e5⟩ := List.append_inj' he rfl
  obtain rfl : (xs.length - 1 - k', xs.getD (xs.length - 1 - k') zI) = last := by simpa using e5
  refine .inl ⟨xs.length - 1 - k', by omega, hl, fun j h1 h2 => hi (j, xs.getD j zI) (List.mem_map.2 ⟨xs.length - 1 - j, List.mem_range.2 (by omega), by rw [show xs.length - 1 - (xs.length - 1 - j) = j by omega]⟩), ?_⟩
  rw [← IntWalk.i64_left, IntWalk.i64_in _ (by dsimp only; omega)]
set_option maxRecDepth 100000 in
set_option maxHeartbeats 1600000 in
theorem near17 (f : Nat) (p : Id → Bool) (hf : (f = 18 ∧ p = acc) ∨ (f = 36 ∧ p = fun _ => true)) (A : Option Addr) (c n : Nat) (xs : List Id) (w : World) (hl : xs.length = n) (hc : n ≤ c) (hx : Sl w cI A xs) (hn : xs.length ≤ 1000) :
    Calls Try.prog 17 #[.slice A n c, .func (.func f) #[] #[]] w fun e w' => NearP p xs e ∧ Below w.heap.size w w' := by
  refine (callsIn_wide (n := 5)).1 (callsIn_of_wp_marks Try.func17 rfl trivial ?_ rfl)
  simp only [Try.ntmps17, List.size_toArray, List.length_cons, List.length_nil, Nat.reduceAdd, Nat.reduceSub, Array.replicate_succ, Array.replicate_zero, List.push_toArray, List.append_toArray, List.nil_append, List.cons_append]
  refine wpIn_wide.2 ?_
  have hbe : ∀ W, Sem.run Try.prog (binOp .eql 37 (.func (.func f) #[] #[]) .nilFunc) W = .ok (.bool false) W := fun W => by rfl
  have hcall := has_call f p hf
  have hcf := has_enter f p hf
  have HX := Lib.hid (And.intro hl (And.intro hc (And.intro hx (And.intro hn (And.intro hf hcall)))))
  clear hl hc hx hn hf hcall
  go_wp2_with (go_at_call 19; change Calls _ _ _ (W17 w (.slice A n c) (.func (.func f) #[] #[])) _; obtain ⟨W0, hW0⟩ : ∃ W0, W17 w (.slice A n c) (.func (.func f) #[] #[]) = W0 := ⟨_, rfl⟩; have hnew := fr_new w (.slice A n c) (.func (.func f) #[] #[]); rw [hW0] at hnew ⊢; clear hW0; have HN := Lib.hid hnew; clear hnew; refine (anc19 _ _ _ xs _ HX.out.1 (HX.out.2.2.1.keep HN.out.2.1) (by have := HX.out.2.2.2.1; omega)).mono ?_; rintro e w1 ⟨b, A1, c1, rfl, hb1, hb2, hb3, hb4, hb5, hb6⟩; have H1 := Lib.hid (And.intro hb1 (And.intro hb2 (And.intro hb3 (And.intro hb4 (And.intro hb5 hb6))))); clear hb1 hb2 hb3 hb4 hb5 hb6)
  obtain ⟨hb1, hb2, hb3, hb4, hb5, hb6⟩ := H1.out
  have hlt : w.heap.size + 5 ≤ w1.heap.size := by have := hb1.size; rw [HN.out.2.2] at this; exact this
  have hw1 : Below w.heap.size w w1 := HN.out.2.1.trans (hb1.mono (by rw [HN.out.2.2]; omega))
  have hfr1 : Fr w1 w.heap.size (.slice A n c) (.func (.func f) #[] #[]) := HN.out.1.keep (by rw [HN.out.2.2]; exact Nat.le_refl _) hb1
  refine (wpIn_wide (n := 5)).1 ?_
  refine wpIn_rangeFunc_ownH (F := Fence.wide) (n := 5) rfl (by decide) (gf := 35) (lb := #[.pointer (some ⟨b, 0, none⟩)]) rfl trivial (enters_of Try.func35 (by kernel_rfl) rfl)
    (anc_stops 4 (by decide) b W0.heap.size w1.heap.size c1 A1 xs hb2 hb3 (by have := HX.out.2.2.2.1; omega) w1 (Nat.le_refl _) hb4 hb6) KpR.trans (kpR_b (Nat.le_refl _)) (Below.refl _ _) (fun _ => rfl)
    (fun pre W => (∀ q ∈ pre, p q.2 = false) ∧ Below w1.heap.size w1 W)
    (NIx w p n)
    (OwnFrom.and (ownFrom_pure _ (fun pre : List (Nat × Id) => ∀ q ∈ pre, p q.2 = false)) (ownFrom_below (Nat.le_refl _) (Nat.le_refl _)))
    (fun c => OwnFrom.and (Own.from (fun s A B row hs hg hr => by obtain ⟨hc, ini, last, e1, e2, e3, e4, e5, e6⟩ := hs; exact ⟨hc, ini, last, e1, e2, e3, e4.kept hg hr, cell_kept e5 hg hr, cell_kept e6 hg hr⟩) _) (ownFrom_below (Nat.le_refl _) (by omega)))
    ⟨by simp, Below.refl _ _⟩
    (fun x a' W => ∃ Bx, w1.heap.size ≤ Bx ∧ At W ⟨Bx, 0, none⟩ (cI x.2) ∧ a' = { tmps := #[.slice A n c, .func (.func f) #[] #[], .pointer (some ⟨w.heap.size, 0, none⟩), .pointer (some ⟨w.heap.size + 1, 0, none⟩), .pointer (some ⟨w.heap.size + 1 + 1, 0, none⟩), .pointer (some ⟨w.heap.size + 1 + 1 + 1, 0, none⟩), .pointer (some ⟨w.heap.size + 1 + 1 + 1 + 1, 0, none⟩), .int .i64 (x.1 : Int), .pointer (some ⟨Bx, 0, none⟩), .func (.func f) #[] #[], .bool false, undef, undef, undef, .slice A n c, .func (.func 35) #[] #[.pointer (some ⟨b, 0, none⟩)], .int .i64 (x.1 : Int), vI x.2, undef, undef, undef, undef, undef, undef, undef, undef, undef, undef, undef, undef], defers := [] })
    (fun x a' _ X Y row hs hg hr => by obtain ⟨Bx, h1, h2, h3⟩ := hs; exact ⟨Bx, h1, h2.kept hg (fun r e => (hr r e).2), h3⟩)
    ?assign ?body ?done ?stop
  case assign =>
    rintro l pre x W K ⟨hp, hB⟩ hK
    have HP := Lib.hid (And.intro hp hB)
    clear hp hB
    gi_wp2
    refine hK _ _ ⟨(below_alloc W _).size, fun k o _ ho _ => ((below_alloc W _).block k (Array.getElem?_eq_some_iff.1 ho).1).trans ho⟩ (KpR.below ((below_alloc W _).mono HP.out.2.size)) ⟨HP.out.1, HP.out.2.alloc HP.out.2.size _⟩ ⟨W.heap.size, HP.out.2.size, at_new W (cI x.2) _ _ rfl, rfl⟩
  case body =>
    rintro l pre x a' W hll ⟨r, hr⟩ ⟨hp, hB⟩ ⟨Bx, hBx, hat, rfl⟩ hlen
    have hI0 : NInv w w1 W (.slice A n c) (.func (.func f) #[] #[]) Bx x.2 W := ⟨hfr1.keep hlt hB, hat, KeepsFrom.refl _ _, hw1.trans (hB.mono hw1.size), hlt, hBx⟩
    have c3 := hI0.fr.c3
    have ho := hI0.ok
    have hrd := hI0.rd
    have HB := Lib.hid (And.intro hlen (And.intro hp (And.intro hB (And.intro hI0 hat))))
    clear hlen hp hB hI0 hat H1 hb1 hb2 hb3 hb4 hb5 hb6 hr
    cases hpx : p x.2 with
    | false =>
      gi_wp2_with (refine ⟨trivial, (CallsIn.inRound l (callsIn_wide.2 (HX.out.2.2.2.2.2 x.2 _))).mono ?_⟩; rintro e W2 ⟨rfl, hb2⟩; rw [hpx]; have HW := Lib.hid hb2; clear hb2)
      exact ⟨KeepsFrom.of_below HW.out, KpR.below (HW.out.mono HB.out.2.2.1.size), fun q hq => (List.mem_append.1 hq).elim (HB.out.2.1 q) (fun e => by simp at e; subst e; exact hpx), HB.out.2.2.1.trans (HW.out.mono HB.out.2.2.1.size)⟩
    | true =>
      gi_wp2_with (refine ⟨trivial, (CallsIn.inRound l (callsIn_wide.2 (HX.out.2.2.2.2.2 x.2 _))).mono ?_⟩; rintro e W2 ⟨rfl, hb2⟩; rw [hpx]; have HW := Lib.hid hb2; clear hb2)
      have hp := HB.out.2.1
      have hI0 := HB.out.2.2.2.1.keep (Nat.le_trans hlt HB.out.2.2.1.size) HW.out
      clear c3 ho hrd
      refine AnyO.wpIn_any_tailP (.inr ⟨l, rfl⟩) 7 (by kernel_rfl) (by kernel_rfl) (by kernel_rfl) (by kernel_rfl) (by kernel_rfl) (by kernel_rfl) (fun u => NInv w w1 W (.slice A n c) (.func (.func f) #[] #[]) Bx x.2 u) (pstP [isV (vI x.2), isV (.slice A n c), isV (.int .i64 n), isV (.int .i64 ((n : Int) - 1)), isV (.int .i64 (x.1 : Int)), isV (.int .i64 (wrap64 ((n : Int) - 1 - x.1))), fun _ u => At u ⟨w.heap.size + 1 + 1, 0, none⟩ (cI x.2)]) (hI0.drew) ?_ ?_
      · intro i hi
        have hi2 : i = 0 ∨ i = 1 ∨ i = 2 ∨ i = 3 ∨ i = 4 ∨ i = 5 ∨ i = 6 := by omega
        clear hi
        rcases hi2 with rfl | rfl | rfl | rfl | rfl | rfl | rfl
        · -- 0: Op.load 33 (Operand.tmp 8)
          refine AnyO.StepP.mk rfl [] (by kernel_rfl) ?_
          intro vs u hE hp ac hb K hK
          have s8 : ac.tmps[8]?.getD undef = .pointer (some ⟨Bx, 0, none⟩) := by rw [hb]; kernel_rfl
          rw [if_pos (AnyO.wanted_none rfl)]
          clear hb hp
          have ho := hE.ok
          have hr := hE.rd
          go_simp
          exact hK _ _ hE (fun _ _ _ h => h) rfl
        · -- 1: Op.load 24 (Operand.tmp 2)
          refine AnyO.StepP.mk rfl [] (by kernel_rfl) ?_
          intro vs u hE hp ac hb K hK
          have s2 : ac.tmps[2]?.getD undef = .pointer (some ⟨w.heap.size, 0, none⟩) := by rw [hb]; kernel_rfl
          rw [if_pos (AnyO.wanted_none rfl)]
          clear hb hp
          have hc2 := hE.fr.c2
          go_simp
          exact hK _ _ hE (fun _ _ _ h => h) rfl
        · -- 2: Op.call { callee := Callee.builtin Builtin.len, args := #[Op
          refine AnyO.StepP.mk rfl [1] (by kernel_rfl) ?_
          intro vs u hE hp ac hb K hK
          have s22 : ac.tmps[22]?.getD undef = .slice A n c := by rw [hb]; exact (show _ = vs 1 by kernel_rfl).trans (hp 1 (by decide))
          rw [if_pos (AnyO.wanted_none rfl)]
          clear hb hp
          go_simp
          exact hK _ _ hE (fun _ _ _ h => h) rfl
        · -- 3: Op.binOp BinOp.sub 3 (Operand.tmp 23) (Operand.const (Value.
          refine AnyO.StepP.mk rfl [2] (by kernel_rfl) ?_
          intro vs u hE hp ac hb K hK
          have s23 : ac.tmps[23]?.getD undef = .int .i64 n := by rw [hb]; exact (show _ = vs 2 by kernel_rfl).trans (hp 2 (by decide))
          rw [if_pos (AnyO.wanted_none rfl)]
          clear hb hp
          have hn2 : n ≤ 1000 := by rw [← HX.out.1]; exact HX.out.2.2.2.1
          go_simp
          rw [IntWalk.i64_in _ (by omega)]
          exact hK _ _ hE (fun _ _ _ h => h) rfl
        · -- 4: Op.move (Operand.tmp 7)
          refine AnyO.StepP.mk rfl [] (by kernel_rfl) ?_
          intro vs u hE hp ac hb K hK
          have s7 : ac.tmps[7]?.getD undef = .int .i64 (x.1 : Int) := by rw [hb]; kernel_rfl
          rw [if_pos (AnyO.wanted_none rfl)]
          clear hb hp
          go_simp
          exact hK _ _ hE (fun _ _ _ h => h) rfl
        · -- 5: Op.binOp BinOp.sub 3 (Operand.tmp 24) (Operand.tmp 25) 3
          refine AnyO.StepP.mk rfl [3, 4] (by kernel_rfl) ?_
          intro vs u hE hp ac hb K hK
          have s24 : ac.tmps[24]?.getD undef = .int .i64 ((n : Int) - 1) := by rw [hb]; exact (show _ = vs 3 by kernel_rfl).trans (hp 3 (by decide))
          have s25 : ac.tmps[25]?.getD undef = .int .i64 (x.1 : Int) := by rw [hb]; exact (show _ = vs 4 by kernel_rfl).trans (hp 4 (by decide))
          rw [if_pos (AnyO.wanted_none rfl)]
          clear hb hp
          go_simp
          rw [IntWalk.i64_left]
          exact hK _ _ hE (fun _ _ _ h => h) rfl
        · -- 6: Op.store 33 (Operand.tmp 4) (Operand.tmp 21)
          refine AnyO.StepP.mk rfl [0, 0] (by kernel_rfl) ?_
          intro vs u hE hp ac hb K hK
          have s4 : ac.tmps[4]?.getD undef = .pointer (some ⟨w.heap.size + 1 + 1, 0, none⟩) := by rw [hb]; kernel_rfl
          have s21 : ac.tmps[21]?.getD undef = vI x.2 := by rw [hb]; exact (show _ = vs 0 by kernel_rfl).trans (hp 0 (by decide))
          rw [if_pos (AnyO.wanted_none rfl)]
          clear hb hp
          have hr4 := hE.fr.r4
          go_simp
          exact hK undef _ (hE.setRow _) (fun j v hj h => near_posts hj h) (at_setRow (cI x.2) hE.fr.r4)
      · intro vs u hE hp
        have e0 : vs 0 = vI x.2 := hp 0 (by decide)
        have e1 : vs 1 = .slice A n c := hp 1 (by decide)
        have e2 : vs 2 = .int .i64 n := hp 2 (by decide)
        have e3 : vs 3 = .int .i64 ((n : Int) - 1) := hp 3 (by decide)
        have e4 : vs 4 = .int .i64 (x.1 : Int) := hp 4 (by decide)
        have e5 : vs 5 = .int .i64 (wrap64 ((n : Int) - 1 - x.1)) := hp 5 (by decide)
        have f6 : At u ⟨w.heap.size + 1 + 1, 0, none⟩ (cI x.2) := hp 6 (by decide)
        clear hp
        rw [puts_range [some 21, some 22, some 23, some 24, some 25, some 26, none] (by kernel_rfl)]
        simp only [putL, Nat.reduceAdd, List.drop_succ_cons, List.drop_zero, e0, e1, e2, e3, e4, e5]
        clear e0 e1 e2 e3 e4 e5
        go_simp
        have c5 := hE.fr.c5
        have g5 := hE.fr.f5
        have c6 := hE.fr.c6
        have g6 := hE.fr.f6
        gi_wp2
        exact near_ret hp hpx hE f6
  case done =>
    rintro D ys W hD rfl ⟨hne, hB⟩ hK
    have hI0 : EInv w W (.slice A n c) (.func (.func f) #[] #[]) W := ⟨hfr1.keep hlt hB, KeepsFrom.refl _ _, hw1.trans (hB.mono hw1.size)⟩
    have HB := Lib.hid (And.intro hne (And.intro hB hK))
    clear hne hB hK H1 hb1 hb2 hb3 hb4 hb5 hb6 hcf hbe
    go_wp2
    refine (wpIn_wide (n := 5)).1 ?_
    refine AnyO.wpIn_any_tailP (.inl rfl) 4 (by kernel_rfl) (by kernel_rfl) (by kernel_rfl) (by kernel_rfl) (by kernel_rfl) (by kernel_rfl) (fun u => EInv w W (.slice A n c) (.func (.func f) #[] #[]) u) (pstP [isV (vI zI), isV (.slice A n c), isV (.int .i64 n), fun _ u => At u ⟨w.heap.size + 1 + 1, 0, none⟩ (cI zI)]) (hI0.drew) ?_ ?_
    · intro i hi
      have hi2 : i = 0 ∨ i = 1 ∨ i = 2 ∨ i = 3 := by omega
      clear hi
      rcases hi2 with rfl | rfl | rfl | rfl
      · -- 0: Op.build 33 #[]
        refine AnyO.StepP.mk rfl [] (by kernel_rfl) ?_
        intro vs u hE hp ac hb K hK
        rw [if_pos (AnyO.wanted_none rfl)]
        clear hb hp
        go_simp
        exact hK _ _ hE (fun _ _ _ h => h) rfl
      · -- 1: Op.load 24 (Operand.tmp 2)
        refine AnyO.StepP.mk rfl [] (by kernel_rfl) ?_
        intro vs u hE hp ac hb K hK
        have s2 : ac.tmps[2]?.getD undef = .pointer (some ⟨w.heap.size, 0, none⟩) := by rw [hb]; kernel_rfl
        rw [if_pos (AnyO.wanted_none rfl)]
        clear hb hp
        have hc2 := hE.fr.c2
        go_simp
        exact hK _ _ hE (fun _ _ _ h => h) rfl
      · -- 2: Op.call { callee := Callee.builtin Builtin.len, args := #[Op
        refine AnyO.StepP.mk rfl [1] (by kernel_rfl) ?_
        intro vs u hE hp ac hb K hK
        have s28 : ac.tmps[28]?.getD undef = .slice A n c := by rw [hb]; exact (show _ = vs 1 by kernel_rfl).trans (hp 1 (by decide))
        rw [if_pos (AnyO.wanted_none rfl)]
        clear hb hp
        go_simp
        exact hK _ _ hE (fun _ _ _ h => h) rfl
      · -- 3: Op.store 33 (Operand.tmp 4) (Operand.tmp 27)
        refine AnyO.StepP.mk rfl [0, 0] (by kernel_rfl) ?_
        intro vs u hE hp ac hb K hK
        have s4 : ac.tmps[4]?.getD undef = .pointer (some ⟨w.heap.size + 1 + 1, 0, none⟩) := by rw [hb]; kernel_rfl
        have s27 : ac.tmps[27]?.getD undef = vI zI := by rw [hb]; exact (show _ = vs 0 by kernel_rfl).trans (hp 0 (by decide))
        rw [if_pos (AnyO.wanted_none rfl)]
        clear hb hp
        have hr4 := hE.fr.r4
        go_simp
        exact hK undef _ (hE.setRow _) (fun j v hj h => near_posts8 hj h) (at_setRow (cI zI) hE.fr.r4)
    · intro vs u hE hp
      have e0 : vs 0 = vI zI := hp 0 (by decide)
      have e1 : vs 1 = .slice A n c := hp 1 (by decide)
      have e2 : vs 2 = .int .i64 n := hp 2 (by decide)
      have f3 : At u ⟨w.heap.size + 1 + 1, 0, none⟩ (cI zI) := hp 3 (by decide)
      clear hp
      rw [puts_range [some 27, some 28, some 29, none] (by kernel_rfl)]
      simp only [putL, Nat.reduceAdd, List.drop_succ_cons, List.drop_zero, e0, e1, e2]
      clear e0 e1 e2
      go_simp
      have c5 := hE.fr.c5
      have g5 := hE.fr.f5
      have c6 := hE.fr.c6
      have g6 := hE.fr.f6
      gi_wp2
      refine wp_ret ?_
      have hnl := HX.out.1
      subst hnl
      exact near_end rfl rfl rfl ((f3.setOther _ _ (by simp)).setOther _ _ (by simp)) (by rw [World.cell?_setCell_other _ _ _ _ (by simp), World.cell?_setCell_same' _ _ _ (by rw [c5]; rfl)]) (by rw [World.cell?_setCell_same' _ _ _ (by rw [World.cell?_setCell_other _ _ _ _ (by simp), c6]; rfl)])
        ((KeepsOthers.setCell _ _ _).same _ _ ((KeepsOthers.setCell _ _ _).same _ _ (hE.kf.same D _ (by omega) HB.out.2.2 rfl) rfl) rfl) (by omega) ((hE.bl.setCell (p := ⟨w.heap.size + 1 + 1 + 1, 0, none⟩) (by simp; omega) _).setCell (p := ⟨w.heap.size + 1 + 1 + 1 + 1, 0, none⟩) (by simp; omega) _) (near_no HB.out.1)
  case stop =>
    rintro D c' pre W hD ⟨k, hk, rfl⟩ ⟨⟨rfl, ini, last, e1, e2, e3, h4, h5, h6⟩, hB⟩ hK
    have HB := Lib.hid (And.intro hB hK)
    clear hB hK H1 hb1 hb2 hb3 hb4 hb5 hb6 hcf hbe
    have hnl := HX.out.1
    subst hnl
    gi_wp2
    exact near_end rfl rfl rfl h4 h5 h6 HB.out.2 (by omega) HB.out.1 (near_yes hk e1 e2 e3 HX.out.2.2.2.1)
end Go.Proofs.Ytcchpenaiomeeaa
