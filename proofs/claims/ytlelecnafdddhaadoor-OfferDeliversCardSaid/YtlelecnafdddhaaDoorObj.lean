/- The sender as an object in memory: what its blocks hold, what a call keeps. -/
import Derived.Test.YtlelecnafdddhaaDoorTypes
import Derived.Test.YtlelecnafdddhaaDoorShelf
import Derived.Deep.CutBlock
namespace Go.Proofs.YtlelecnafdddhaaDoor
open Go.RowKit
attribute [go_sem] okA_drew rdA_drew okA_drewN rdA_drewN okA_alloc rdA_alloc rowOk_drew rowOk_drewN rowOk_alloc setRow_new setRow_alloc setRow_drew setRow_drewN
theorem info5 : ∃ i, Tryd.prog.info? 5 = some i ∧ i.size = 1 := by
  have h : (Tryd.prog.info? 5).map (·.size) = some 1 := by kernel_rfl
  cases hq : Tryd.prog.info? 5 with
  | none => rw [hq] at h; cases h
  | some i => exact ⟨i, rfl, by simpa [hq] using h⟩
section
variable (w : World)
@[go_sem] theorem eql40 (a b : Id) : (binOp .eql 40 (vI a) (vI b)).run Tryd.prog w = .ok (.bool (decide (a = b))) w := by
  obtain ⟨i, h1, h2⟩ := info5
  unfold vI cI
  rw [run_eql_bytes w 32 40 5 i a.1 b.1 Tryd.underlying40 Tryd.underlying5 h1 h2 a.2 b.2]
  simp [Subtype.ext_iff]
@[go_sem] theorem neq40 (a b : Id) : (binOp .neq 40 (vI a) (vI b)).run Tryd.prog w = .ok (.bool (!decide (a = b))) w := by
  obtain ⟨i, h1, h2⟩ := info5
  unfold vI cI
  rw [run_neq_bytes w 32 40 5 i a.1 b.1 Tryd.underlying40 Tryd.underlying5 h1 h2 a.2 b.2]
  simp [Subtype.ext_iff]
@[go_sem] theorem eql22 (a b : Id) : (binOp .eql 22 (vI a) (vI b)).run Tryd.prog w = .ok (.bool (decide (a = b))) w := by
  obtain ⟨i, h1, h2⟩ := info5
  unfold vI cI
  rw [run_eql_bytes w 32 22 5 i a.1 b.1 Tryd.underlying22 Tryd.underlying5 h1 h2 a.2 b.2]
  simp [Subtype.ext_iff]
theorem guard40 : Tryd.prog.eqGuardType Tryd.prog.depth 40 = false := by kernel_rfl
theorem guard22 : Tryd.prog.eqGuardType Tryd.prog.depth 22 = false := by kernel_rfl
@[go_sem] theorem eqGuard40 (op : BinOp) (x y : Operand) (a b : Id) : (eqGuard op 40 x y (vI a) (vI b)).run Tryd.prog w = .ok () w := run_eqGuard_agg w op 40 x y _ _ guard40
@[go_sem] theorem eqGuard22 (op : BinOp) (x y : Operand) (a b : Id) : (eqGuard op 22 x y (vI a) (vI b)).run Tryd.prog w = .ok () w := run_eqGuard_agg w op 22 x y _ _ guard22
end
/-! ### fields of new variables -/
section
variable (w : World)
@[go_sem] theorem aC_0 (c : Cm) : (aC c)[0]? = some (.int .i64 c.verb) := rfl
@[go_sem] theorem aC_1 (c : Cm) : (aC c)[1]? = some (.string c.name) := rfl
theorem aC_hi (c : Cm) (k : Nat) : (aC c)[34 + k]? = [Value.int .i64 c.size, .int .i64 c.from_, .int .i64 c.count, .int .i64 c.code, .string c.text][k]? := by
  unfold aC cC
  rw [List.getElem?_toArray, show 34 + k = (32 + k) + 1 + 1 by omega, List.getElem?_cons_succ, List.getElem?_cons_succ, List.getElem?_append_right (by rw [cI_length]; omega), cI_length, show 32 + k - 32 = k by omega]
@[go_sem] theorem aC_34 (c : Cm) : (aC c)[34]? = some (.int .i64 c.size) := aC_hi c 0
@[go_sem] theorem aC_35 (c : Cm) : (aC c)[35]? = some (.int .i64 c.from_) := aC_hi c 1
@[go_sem] theorem aC_36 (c : Cm) : (aC c)[36]? = some (.int .i64 c.count) := aC_hi c 2
@[go_sem] theorem aC_37 (c : Cm) : (aC c)[37]? = some (.int .i64 c.code) := aC_hi c 3
@[go_sem] theorem aC_38 (c : Cm) : (aC c)[38]? = some (.string c.text) := aC_hi c 4
@[go_sem] theorem aA_32 (a : Art) : (aA a)[32]? = some (.string a.2) := by
  unfold aA cA
  rw [List.getElem?_toArray, List.getElem?_append_right (by rw [cI_length]; omega), cI_length]
  rfl
theorem at_off {w : World} {g k n : Nat} {cs ds : List Value} {ty : TypeId} (hg : g = w.heap.size) (hd : (cs.drop k).take n = ds) : At (w.alloc (.cells cs.toArray ty)) ⟨g, k, none⟩ ds := by
  subst hg
  exact (Row.new w cs ty).at_ hd
theorem cC_id (c : Cm) : ((cC c).drop 2).take 32 = cI c.id := by
  unfold cC
  rw [List.drop_succ_cons, List.drop_succ_cons, List.drop_zero, List.take_append_of_le_length (by rw [cI_length]; omega), List.take_of_length_le (by rw [cI_length]; omega)]
theorem cA_id (a : Art) : ((cA a).drop 0).take 32 = cI a.1 := by
  unfold cA
  rw [List.drop_zero, List.take_append_of_le_length (by rw [cI_length]; omega), List.take_of_length_le (by rw [cI_length]; omega)]
@[go_sem] theorem okA_Cid (c : Cm) (ty : TypeId) (g : Nat) (hg : g = w.heap.size) : okA (w.alloc (.cells (aC c) ty)) ⟨g, 2, none⟩ 32 = true := by
  have := (at_off (ty := ty) hg (cC_id c)).ok
  rwa [cI_length] at this
@[go_sem] theorem rdA_Cid (c : Cm) (ty : TypeId) (g : Nat) (hg : g = w.heap.size) : rdA (w.alloc (.cells (aC c) ty)) ⟨g, 2, none⟩ 32 = vI c.id := by
  have := (at_off (ty := ty) hg (cC_id c)).rd
  rwa [cI_length] at this
@[go_sem] theorem okA_Aid (a : Art) (ty : TypeId) (g : Nat) (hg : g = w.heap.size) : okA (w.alloc (.cells (aA a) ty)) ⟨g, 0, none⟩ 32 = true := by
  have := (at_off (ty := ty) hg (cA_id a)).ok
  rwa [cI_length] at this
@[go_sem] theorem rdA_Aid (a : Art) (ty : TypeId) (g : Nat) (hg : g = w.heap.size) : rdA (w.alloc (.cells (aA a) ty)) ⟨g, 0, none⟩ 32 = vI a.1 := by
  have := (at_off (ty := ty) hg (cA_id a)).rd
  rwa [cI_length] at this
end
/-! ### the object -/
/-- What a sender knows: the articles that wait, its state, the article that is under way, the outcomes, the sender of its text (the bytes said, whether the end was said). -/
structure St where
  wait : List Art
  state : Int
  cur : Art
  outs : List Out
  snd : Option (Int × Bool)
def St.zero : St := ⟨[], 0, zA, [], none⟩
/-- The blocks of a sender: its own row, the rows of its lists, the row of the sender of its text; all of them among F. -/
structure Rp (b : Nat) (ch : Int) (s : St) (F : List Nat) (vw vo : Value) (q : Option Addr) (w : World) : Prop where
  row : Row w b (cSn ch vw s.state s.cur q vo) 91
  ow : Own w 0 86 33 cA vw s.wait
  oo : Own w 0 68 34 cO vo s.outs
  none_ : s.snd = none → q = none
  some_ : ∀ t, s.snd = some t → ∃ g, q = some ⟨g, 0, none⟩ ∧ g ≠ b ∧ g ∈ F ∧ Row w g (cT s.cur ch t.1 t.2) 120 ∧ vw.ownBlock ≠ some g ∧ vo.ownBlock ≠ some g
  bF : b ∈ F
  wF : ∀ k, vw.ownBlock = some k → k ∈ F ∧ k ≠ b ∧ vo.ownBlock ≠ some k
  oF : ∀ k, vo.ownBlock = some k → k ∈ F ∧ k ≠ b
def Rep (b : Nat) (ch : Int) (s : St) (F : List Nat) (w : World) : Prop := ∃ vw vo q, Rp b ch s F vw vo q w
/-- A call that touches no older block but those of F, and leaves F'. -/
structure Kp (F F' : List Nat) (w w' : World) : Prop where
  os : w'.os = w.os
  tape : w'.tape = w.tape
  output : w'.output = w.output
  size : w.heap.size ≤ w'.heap.size
  out : ∀ k, k < w.heap.size → k ∉ F → k ∉ F' ∧ w'.heap[k]? = w.heap[k]?
theorem Kp.refl (F : List Nat) (w : World) : Kp F F w w := ⟨rfl, rfl, rfl, Nat.le_refl _, fun _ _ h => ⟨h, rfl⟩⟩
theorem Kp.trans {F F' F'' : List Nat} {a b c : World} (h : Kp F F' a b) (k : Kp F' F'' b c) : Kp F F'' a c :=
  ⟨k.os.trans h.os, k.tape.trans h.tape, k.output.trans h.output, Nat.le_trans h.size k.size, fun j hj hF => by
    obtain ⟨h1, h2⟩ := h.out j hj hF
    obtain ⟨h3, h4⟩ := k.out j (Nat.lt_of_lt_of_le hj h.size) h1
    exact ⟨h3, h4.trans h2⟩⟩
theorem Kp.of_below {F : List Nat} {w w' : World} (h : Below w.heap.size w w') : Kp F F w w' := ⟨h.os, h.tape, h.output, h.size, fun k hk hF => ⟨hF, h.block k hk⟩⟩
theorem Kp.below {F F' : List Nat} {B : Nat} {w w' : World} (h : Kp F F' w w') (hF : ∀ k ∈ F, B ≤ k) (hB : B ≤ w.heap.size) : Below B w w' := ⟨h.os, h.tape, h.output, h.size, fun k hk => (h.out k (by omega) (fun hm => by have := hF k hm; omega)).2⟩
theorem Own.same {α : Type} {w w' : World} {base : Nat} {e : TypeId} {s : Nat} {enc : α → List Value} {v : Value} {xs : List α} (h : Own w base e s enc v xs) (hk : ∀ k, v.ownBlock = some k → w'.heap[k]? = w.heap[k]?) : Own w' base e s enc v xs := by
  refine ⟨h.1, h.2.imp id fun ⟨g, cap, cur, a1, a2, a3, r⟩ => ⟨g, cap, cur, a1, a2, ?_, r⟩⟩
  rw [hk g (by rw [a1]; rfl)]
  exact a3
theorem Rp.same {b : Nat} {ch : Int} {s : St} {F : List Nat} {vw vo : Value} {q : Option Addr} {w w' : World} (h : Rp b ch s F vw vo q w) (hk : ∀ k ∈ F, w'.heap[k]? = w.heap[k]?) : Rp b ch s F vw vo q w' :=
  ⟨h.row.same (hk b h.bF), h.ow.same fun k e => hk k (h.wF k e).1, h.oo.same fun k e => hk k (h.oF k e).1, h.none_, fun t ht => by
    obtain ⟨g, e1, e2, e3, e4, e5⟩ := h.some_ t ht
    exact ⟨g, e1, e2, e3, e4.same (hk g e3), e5⟩, h.bF, h.wF, h.oF⟩
theorem Rp.keep {b : Nat} {ch : Int} {s : St} {F : List Nat} {vw vo : Value} {q : Option Addr} {w w' : World} (h : Rp b ch s F vw vo q w) (hb : Below w.heap.size w w') : Rp b ch s F vw vo q w' := by
  refine ⟨h.row.keep hb, h.ow.keep hb, h.oo.keep hb, h.none_, fun t ht => ?_, h.bF, h.wF, h.oF⟩
  obtain ⟨g, e1, e2, e3, e4, e5⟩ := h.some_ t ht
  exact ⟨g, e1, e2, e3, e4.keep hb, e5⟩
theorem Rep.keep {b : Nat} {ch : Int} {s : St} {F : List Nat} {w w' : World} (h : Rep b ch s F w) (hb : Below w.heap.size w w') : Rep b ch s F w' := by
  obtain ⟨vw, vo, q, h⟩ := h
  exact ⟨vw, vo, q, h.keep hb⟩
/-- The cells of the sender's row, as the walk asks for them. -/
theorem Rp.c0 {b : Nat} {ch : Int} {s : St} {F : List Nat} {vw vo : Value} {q : Option Addr} {w : World} (h : Rp b ch s F vw vo q w) : w.cell? ⟨b, 0, none⟩ = some (.int .i64 ch) := h.row.cell 0
theorem Rp.c1 {b : Nat} {ch : Int} {s : St} {F : List Nat} {vw vo : Value} {q : Option Addr} {w : World} (h : Rp b ch s F vw vo q w) : w.cell? ⟨b, 1, none⟩ = some vw := h.row.cell 1
theorem Rp.c2 {b : Nat} {ch : Int} {s : St} {F : List Nat} {vw vo : Value} {q : Option Addr} {w : World} (h : Rp b ch s F vw vo q w) : w.cell? ⟨b, 2, none⟩ = some (.int .i64 s.state) := h.row.cell 2
theorem cSn_hi (ch : Int) (vw : Value) (st : Int) (a : Art) (q : Option Addr) (vo : Value) (k : Nat) : (cSn ch vw st a q vo)[35 + k]? = [Value.string a.2, .pointer q, vo][k]? := by
  unfold cSn cD cA
  rw [show 35 + k = (32 + k) + 1 + 1 + 1 by omega, List.getElem?_cons_succ, List.getElem?_cons_succ, List.getElem?_cons_succ, List.append_assoc, List.append_assoc, List.getElem?_append_right (by rw [cI_length]; omega), cI_length, show 32 + k - 32 = k by omega]
  rfl
theorem Rp.c35 {b : Nat} {ch : Int} {s : St} {F : List Nat} {vw vo : Value} {q : Option Addr} {w : World} (h : Rp b ch s F vw vo q w) : w.cell? ⟨b, 35, none⟩ = some (.string s.cur.2) := (h.row.cell 35).trans (cSn_hi _ _ _ _ _ _ 0)
theorem Rp.c36 {b : Nat} {ch : Int} {s : St} {F : List Nat} {vw vo : Value} {q : Option Addr} {w : World} (h : Rp b ch s F vw vo q w) : w.cell? ⟨b, 36, none⟩ = some (.pointer q) := (h.row.cell 36).trans (cSn_hi _ _ _ _ _ _ 1)
theorem Rp.c37 {b : Nat} {ch : Int} {s : St} {F : List Nat} {vw vo : Value} {q : Option Addr} {w : World} (h : Rp b ch s F vw vo q w) : w.cell? ⟨b, 37, none⟩ = some vo := (h.row.cell 37).trans (cSn_hi _ _ _ _ _ _ 2)
theorem cSn_cur (ch : Int) (vw : Value) (st : Int) (a : Art) (q : Option Addr) (vo : Value) : ((cSn ch vw st a q vo).drop 3).take 33 = cA a := by
  unfold cSn cD
  rw [List.drop_succ_cons, List.drop_succ_cons, List.drop_succ_cons, List.drop_zero, List.append_assoc, List.take_append_of_le_length (by rw [cA_length]; omega), List.take_of_length_le (by rw [cA_length]; omega)]
theorem cSn_id (ch : Int) (vw : Value) (st : Int) (a : Art) (q : Option Addr) (vo : Value) : ((cSn ch vw st a q vo).drop 3).take 32 = cI a.1 := by
  have h := congrArg (List.take 32) (cSn_cur ch vw st a q vo)
  rw [List.take_take, show min 32 33 = 32 from rfl] at h
  rw [h]
  exact cA_id a
theorem Rp.id {b : Nat} {ch : Int} {s : St} {F : List Nat} {vw vo : Value} {q : Option Addr} {w : World} (h : Rp b ch s F vw vo q w) : okA w ⟨b, 3, none⟩ 32 = true ∧ rdA w ⟨b, 3, none⟩ 32 = vI s.cur.1 := by
  have := h.row.at_ (cSn_id ch vw s.state s.cur q vo)
  have h1 := this.ok
  have h2 := this.rd
  rw [cI_length] at h1 h2
  exact ⟨h1, h2⟩
theorem Rp.art {b : Nat} {ch : Int} {s : St} {F : List Nat} {vw vo : Value} {q : Option Addr} {w : World} (h : Rp b ch s F vw vo q w) : okA w ⟨b, 3, none⟩ 33 = true ∧ rdA w ⟨b, 3, none⟩ 33 = vA s.cur := by
  have := h.row.at_ (cSn_cur ch vw s.state s.cur q vo)
  have h1 := this.ok
  have h2 := this.rd
  rw [cA_length] at h1 h2
  exact ⟨h1, h2⟩
set_option maxRecDepth 100000 in
set_option maxHeartbeats 400000 in
theorem state20 (b : Nat) (ch : Int) (s : St) (F : List Nat) (w : World) (h : Rep b ch s F w) : Calls Tryd.prog 20 #[.pointer (some ⟨b, 0, none⟩)] w fun e w' => e = .returned (.int .i64 s.state) ∧ w' = w := by
  obtain ⟨vw, vo, q, h⟩ := h
  have r1 := h.c2
  clear h
  go_enter Tryd.func20, Tryd.ntmps20
  go_wp2
  go_ret
  exact ⟨rfl, rfl⟩
theorem new_rep (w : World) (ch : Int) : Rep w.heap.size ch St.zero [w.heap.size] (w.alloc (.cells (aSn ch (.slice none 0 0) 0 zA none (.slice none 0 0)) 91)) :=
  ⟨_, _, _, Row.new w _ 91, Own.nil _ _ _ _ _, Own.nil _ _ _ _ _, fun _ => rfl, fun t h => (by cases h), by simp, fun k h => (by cases h), fun k h => (by cases h)⟩
set_option maxRecDepth 100000 in
set_option maxHeartbeats 400000 in
theorem new11_ok (ch : Int) (h1 : 1 ≤ ch) (h2 : ch ≤ 4096) (w : World) : Calls Tryd.prog 11 #[.int .i64 ch] w fun e w' => e = .returned (.tuple #[.pointer (some ⟨w.heap.size, 0, none⟩), .int .i64 0]) ∧ Rep w.heap.size ch St.zero [w.heap.size] w' ∧ Below w.heap.size w w' := by
  go_enter Tryd.func11, Tryd.ntmps11
  go_wp2
  go_ret2
  exact ⟨rfl, new_rep w ch, below_alloc _ _⟩
set_option maxRecDepth 100000 in
set_option maxHeartbeats 400000 in
theorem new11_no (ch : Int) (h : ch < 1 ∨ 4096 < ch) (w : World) : Calls Tryd.prog 11 #[.int .i64 ch] w fun e w' => e = .returned (.tuple #[.pointer none, .int .i64 2]) ∧ w' = w := by
  rcases h with h | h
  · go_enter Tryd.func11, Tryd.ntmps11
    go_wp2
    go_ret2
    exact ⟨rfl, rfl⟩
  · have h2 : ¬ ch < 1 := by omega
    go_enter Tryd.func11, Tryd.ntmps11
    go_wp2
    go_ret2
    exact ⟨rfl, rfl⟩
end Go.Proofs.YtlelecnafdddhaaDoor
