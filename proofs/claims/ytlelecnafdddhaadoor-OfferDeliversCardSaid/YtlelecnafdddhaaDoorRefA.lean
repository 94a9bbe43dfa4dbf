/- The reference of offer: New, Add. -/
import Derived.Test.YtlelecnafdddhaaDoorRefT
import Derived.Test.YtlelecnafdddhaaDoorAddn
namespace Go.Proofs.YtlelecnafdddhaaDoor
open Go.RowKit
theorem ev_tmp {a : Act} {t : Nat} {v : Value} (h : a.tmps[t]?.getD undef = v) : a.eval (.tmp t) = v := by simpa [Act.eval] using h
section
variable {P : Program} (w : World)
/-- append(v, ys...), v empty and without capacity: it makes memory alone. -/
theorem wp_append_fresh {α : Type} {o : Oper} {a : Act} {K : Act → World → Prop} {Q : Exit → Act → World → Prop} (sx x : Operand) (t : TypeId)
    (ho : o.op = .call { callee := .builtin .append, args := #[sx, x], argTypes := #[t, t] })
    (base : Nat) (e : TypeId) (s bytes : Nat) (enc : α → List Value) (ht : P.underlying t = some (.slice e)) (hi : (P.info? e).map (fun i => (i.zero.map (·.cells.size), i.size, i.bytes)) = some (some s, s, bytes)) (hsz : 0 < s)
    (hs : ∀ x, (enc x).length = s) (g : Nat) (hv : a.eval sx = .slice (some ⟨g, 0, none⟩) 0 0) (hown : Own w base e s enc (.slice (some ⟨g, 0, none⟩) 0 0) ([] : List α))
    (A : Option Addr) (m c : Nat) (ys : List α) (hm : ys.length = m) (hx : a.eval x = .slice A m c) (hsl : Sl w enc A ys)
    (hlen : m * bytes ≤ 140737488355328) (hl2 : m ≤ 9223372036854775807) (hbase : base ≤ w.heap.size)
    (h : ∀ v' w', Own w' base e s enc v' ys → Below w.heap.size w w' → K (a.put o.dst v') w') : o.wp P a w K Q := by
  subst hm
  cases hq : P.info? e with
  | none => rw [hq] at hi; cases hi
  | some i =>
    simp only [hq, Option.map_some, Option.some.injEq, Prod.mk.injEq] at hi
    obtain ⟨hz, hsi, hby⟩ := hi
    cases hz0 : i.zero with
    | none => rw [hz0] at hz; cases hz
    | some z =>
      simp only [hz0, Option.map_some, Option.some.injEq] at hz
      by_cases hys : ys = []
      · subst hys
        have hrun : (Builtin.append_ #[t, t] o.type #[.slice (some ⟨g, 0, none⟩) 0 0, .slice A 0 c]).run P w = .ok (.slice (some ⟨g, 0, none⟩) 0 0) w := by
          cases A <;> simp [Builtin.append_, run_underlying ht, sizeOf, typeInfo, hq, Builtin.lenOf, Builtin.firstCells, storeCells, loadCells, loadCellsFrom]
        unfold Oper.wp execOp
        simp only [ho, resolve, invoke, builtin, Sem.run_bind, Sem.run_pure, Result.andThen_ok, List.map_toArray, List.map_cons, List.map_nil, hv, hx, List.length_nil, hrun]
        exact h _ _ hown (Below.refl _ _)
      · obtain ⟨ad, rfl, hat⟩ := hsl hys
        have hpos : 0 < ys.length := List.length_pos_iff.2 hys
        obtain ⟨v', w', hr, h1, h2⟩ := run_append_arg_grows (P := P) w t o.type e i z s bytes ht hq hz0 hsi hby hz hsz ⟨g, 0, none⟩ 0 0 [] (by simp) (by simp) ad ys.length c (ys.flatMap enc)
          (flatMap_length enc s hs ys) hat.2 (by omega) (by unfold maxLen; omega) (by rw [Nat.zero_add]; exact hlen)
        unfold Oper.wp execOp
        simp only [ho, resolve, invoke, builtin, Sem.run_bind, Sem.run_pure, Result.andThen_ok, List.map_toArray, List.map_cons, List.map_nil, hv, hx, hr]
        refine h v' w' ?_ ⟨h2.os, h2.tape, h2.output, h2.size, fun k hk => h2.block k hk (by simp)⟩
        have h3 : Own w' w.heap.size e s enc v' ys := by
          unfold Own
          rw [Nat.zero_add, List.nil_append] at h1
          exact h1
        exact h3.mono hbase
end
/-- Kinds of posts: an owned slice, an owned slice without room, a new slice of one element. -/
def isOwnG {α : Type} (B : Nat) (e : TypeId) (s : Nat) (enc : α → List Value) (xs : List α) : Value → World → Prop := fun v w => Own w B e s enc v xs
def isOwn0G {α : Type} (B : Nat) (e : TypeId) (s : Nat) (enc : α → List Value) : Value → World → Prop := fun v w => ∃ g, v = .slice (some ⟨g, 0, none⟩) 0 0 ∧ Own w B e s enc (.slice (some ⟨g, 0, none⟩) 0 0) ([] : List α)
def isOne {α : Type} (enc : α → List Value) (x : α) : Value → World → Prop := fun v w => ∃ g, v = .slice (some ⟨g, 0, none⟩) 1 1 ∧ Sl w enc (some ⟨g, 0, none⟩) [x]
theorem Mono.ownG {α : Type} (B : Nat) (e : TypeId) (s : Nat) (enc : α → List Value) (xs : List α) : Mono (isOwnG B e s enc xs) := fun _ _ _ hb h => Own.keep h hb
theorem Mono.own0G {α : Type} (B : Nat) (e : TypeId) (s : Nat) (enc : α → List Value) : Mono (isOwn0G (α := α) B e s enc) := fun _ _ _ hb ⟨g, h1, h2⟩ => ⟨g, h1, Own.keep h2 hb⟩
theorem Mono.one {α : Type} (enc : α → List Value) (x : α) : Mono (isOne enc x) := fun _ _ _ hb ⟨g, h1, h2⟩ => ⟨g, h1, h2.keep hb⟩
theorem isOne.A (u : World) (a : Art) (ty : TypeId) : isOne cA a (.slice (some ⟨u.heap.size, 0, none⟩) 1 1) (u.alloc (.cells (aAs [a]) ty)) := ⟨_, rfl, fun _ => ⟨_, rfl, at_new u _ ty _ rfl⟩⟩
theorem isOne.O (u : World) (a : Out) (ty : TypeId) : isOne cO a (.slice (some ⟨u.heap.size, 0, none⟩) 1 1) (u.alloc (.cells (aOs [a]) ty)) := ⟨_, rfl, fun _ => ⟨_, rfl, at_new u _ ty _ rfl⟩⟩
theorem Own.new0 {α : Type} (u : World) (B : Nat) (e : TypeId) (s : Nat) (enc : α → List Value) (hs : ∀ x, (enc x).length = s) (hB : B ≤ u.heap.size) : Own (u.alloc (.cells (([] : List α).flatMap enc).toArray e)) B e s enc (.slice (some ⟨u.heap.size, 0, none⟩) 0 0) ([] : List α) := Own.lit (w := u) hs [] hB (by simp)
/-- A slice that lies outside a footprint. -/
def SlF {α : Type} (F : List Nat) (w : World) (enc : α → List Value) (v : SlV) (xs : List α) : Prop := xs.length = v.2.1 ∧ v.2.1 ≤ v.2.2 ∧ Sl w enc v.1 xs ∧ ∀ ad, v.1 = some ad → xs ≠ [] → ad.block ∉ F
theorem SlF.keep {α : Type} {F : List Nat} {w w' : World} {enc : α → List Value} {v : SlV} {xs : List α} (h : SlF F w enc v xs) (hb : Below w.heap.size w w') : SlF F w' enc v xs := ⟨h.1, h.2.1, h.2.2.1.keep hb, h.2.2.2⟩
theorem SlF.nil {α : Type} (F : List Nat) (w : World) (enc : α → List Value) : SlF F w enc (none, 0, 0) ([] : List α) := ⟨rfl, Nat.le_refl _, Sl.nil _ _ _, fun _ h => by cases h⟩
theorem SlF.kp {α : Type} {F F' : List Nat} {w w' : World} {enc : α → List Value} {v : SlV} {xs : List α} (h : SlF F w enc v xs) (hk : Kp F F' w w') : SlF F' w' enc v xs := by
  refine ⟨h.1, h.2.1, fun hx => ?_, fun ad e hx => ?_⟩
  · obtain ⟨ad, e, hat⟩ := h.2.2.1 hx
    refine ⟨ad, e, Nat.lt_of_lt_of_le hat.1 hk.size, fun j u hj => ?_⟩
    have h1 := hat.2 j u hj
    have h2 := (hk.out ad.block hat.1 (h.2.2.2 ad e hx)).2
    rw [← h1]
    unfold World.cell?
    rw [block_of_add, h2]
  · obtain ⟨ad', e', hat⟩ := h.2.2.1 hx
    rw [e] at e'
    obtain rfl := Option.some.inj e'
    exact (hk.out ad.block hat.1 (h.2.2.2 ad e hx)).1
/-- An owned slice of memory that is newer than the footprint. -/
theorem SlF.own {α : Type} {F : List Nat} {w : World} {B : Nat} {e : TypeId} {s : Nat} {enc : α → List Value} {A : Option Addr} {n c : Nat} {xs : List α} (h : Own w B e s enc (.slice A n c) xs) (hF : ∀ k ∈ F, k < B) : SlF F w enc (A, n, c) xs := by
  obtain ⟨A', c', e1, h2, h3⟩ := Own.sl h
  injection e1 with e1 e2 e3
  subst e1 e2 e3
  refine ⟨rfl, h2, h3, fun ad e hx hm => ?_⟩
  obtain rfl : A = some ad := e
  have hlt := hF _ hm
  rcases h.2 with ⟨e, _⟩ | ⟨g, cap, cur, e, hg, _⟩
  · injection e with e _ _
    cases e
  · injection e with e _ _
    obtain rfl := Option.some.inj e
    exact absurd hlt (by simp; omega)
/-- The reference's sender says what a state says. -/
structure RefAt (F : List Nat) (ch : Int) (s : St) (r : Rs) (w : World) : Prop where
  ch : r.ch = ch
  st : r.st = s.state
  cur : r.cur = s.cur
  at_ : r.at_ = (s.snd.map (·.1)).getD 0
  ws : SlF F w cA r.w s.wait
  os : SlF F w cO r.o s.outs
theorem RefAt.keep {F : List Nat} {ch : Int} {s : St} {r : Rs} {w w' : World} (h : RefAt F ch s r w) (hb : Below w.heap.size w w') : RefAt F ch s r w' := ⟨h.ch, h.st, h.cur, h.at_, h.ws.keep hb, h.os.keep hb⟩
theorem RefAt.kp {F F' : List Nat} {ch : Int} {s : St} {r : Rs} {w w' : World} (h : RefAt F ch s r w) (hk : Kp F F' w w') : RefAt F' ch s r w' := ⟨h.ch, h.st, h.cur, h.at_, h.ws.kp hk, h.os.kp hk⟩
theorem load_R {w : World} {b : Nat} {r : Rs} (h : Row w b (cR r) 32) : (loadVar 32 ⟨b, 0, none⟩).run Tryd.prog w = .ok (vR r) w :=
  run_loadVar_at w ⟨b, 0, none⟩ 32 (cR r) _ (h.at_ (k := 0) (n := 38) (by rw [List.drop_zero, List.take_of_length_le (by rw [cR_length]; omega)])) Tryd.underlying32 rfl (by rw [cR_length]; exact size32)
theorem load_K {w : World} {b : Nat} {c : Rc} (h : Row w b (cK c) 55) : (loadVar 55 ⟨b, 0, none⟩).run Tryd.prog w = .ok (vK c) w :=
  run_loadVar_at w ⟨b, 0, none⟩ 55 (cK c) _ (h.at_ (k := 0) (n := 37) (by rw [List.drop_zero, List.take_of_length_le (by rw [cK_length]; omega)])) Tryd.underlying55 rfl (by rw [cK_length]; exact size55)
theorem cR_setw (r : Rs) (A : Option Addr) (n c : Nat) : (cR r).set 36 (.slice A n c) = cR { r with w := (A, n, c) } := by
  unfold cR
  rw [show (36 : Nat) = 33 + 1 + 1 + 1 from rfl, List.set_cons_succ, List.set_cons_succ, List.set_cons_succ, show (33 : Nat) = (cA r.cur).length + 0 by rw [cA_length], set_hi]
  simp
theorem cR_seto (r : Rs) (A : Option Addr) (n c : Nat) : (cR r).set 37 (.slice A n c) = cR { r with o := (A, n, c) } := by
  unfold cR
  rw [show (37 : Nat) = 34 + 1 + 1 + 1 from rfl, List.set_cons_succ, List.set_cons_succ, List.set_cons_succ, show (34 : Nat) = (cA r.cur).length + 1 by rw [cA_length], set_hi]
  simp
theorem row28 : (Tryd.prog.info? 28).map (fun i => (i.zero.map (·.cells.size), i.size, i.bytes)) = some (some 33, 33, 48) := by kernel_rfl
theorem row103 : (Tryd.prog.info? 103).map (fun i => (i.zero.map (·.cells.size), i.size, i.bytes)) = some (some 34, 34, 48) := by kernel_rfl
/-! ### bytes -/
theorem crL_at (t : ByteArray) (k : Nat) (h : k < t.size) (hc : ((t[k].toNat : Int) == 13) = true) : crL t = true := by
  unfold crL
  have hk : t.data.toList[k]? = some 13 := by
    have h1 : t[k].toNat = 13 := by have : (t[k].toNat : Int) = 13 := by simpa using hc
                                    omega
    have h2 : t[k] = 13 := UInt8.toNat_inj.1 h1
    rw [← h2, List.getElem?_eq_getElem (by simpa using h)]
    rfl
  refine decide_eq_true ?_
  by_cases h3 : 0 ≤ Lib.indexByte t.data.toList 13
  · exact h3
  · have h4 := Lib.indexByte_ge t.data.toList 13
    exact absurd hk (Lib.indexByte_none (by omega) k)
theorem crL_none (t : ByteArray) (h : ∀ k, (hk : k < t.size) → ((t[k].toNat : Int) == 13) = false) : crL t = false := by
  unfold crL
  refine decide_eq_false fun h3 => ?_
  obtain ⟨o, ho⟩ : ∃ o : Nat, Lib.indexByte t.data.toList 13 = (o : Int) := ⟨(Lib.indexByte t.data.toList 13).toNat, by omega⟩
  have h1 := (Lib.indexByte_some ho).1
  have h2 : o < t.size := by
    have := (List.getElem?_eq_some_iff.1 h1).1
    simpa using this
  have h4 := h o h2
  rw [List.getElem?_eq_getElem (by simpa using h2)] at h1
  have h5 : t[o] = 13 := Option.some.inj h1
  rw [h5] at h4
  exact absurd h4 (by decide)
/-! ### New -/
set_option maxRecDepth 100000 in
set_option maxHeartbeats 800000 in
theorem refNew12_ok (F : List Nat) (ch : Int) (h1 : 1 ≤ ch) (h2 : ch ≤ 4096) (w : World) : Calls Tryd.prog 12 #[.int .i64 ch] w fun e w' => ∃ r, e = .returned (.tuple #[vR r, .int .i64 0]) ∧ RefAt F ch St.zero r w' ∧ Below w.heap.size w w' := by
  go_enter Tryd.func12, Tryd.ntmps12
  go_wp2
  exact bodyPost_ret (v := .tuple #[vR { zR with ch := ch }, .int .i64 0]) (results_c2 (ad := ⟨w.heap.size, 0, none⟩) rfl rfl (load_R (Row.new w (cR { zR with ch := ch }) 32)) rfl) rfl ⟨_, rfl, ⟨rfl, rfl, rfl, rfl, SlF.nil _ _ _, SlF.nil _ _ _⟩, below_alloc _ _⟩
set_option maxRecDepth 100000 in
set_option maxHeartbeats 800000 in
theorem refNew12_no (ch : Int) (h : ch < 1 ∨ 4096 < ch) (w : World) : Calls Tryd.prog 12 #[.int .i64 ch] w fun e w' => e = .returned (.tuple #[vR zR, .int .i64 2]) ∧ Below w.heap.size w w' := by
  rcases h with h | h
  · go_enter Tryd.func12, Tryd.ntmps12
    go_wp2
    exact bodyPost_ret (v := .tuple #[vR zR, .int .i64 2]) (results_c2 (ad := ⟨w.heap.size, 0, none⟩) rfl rfl (load_R (Row.new w (cR zR) 32)) rfl) rfl ⟨rfl, below_alloc _ _⟩
  · have h2 : ¬ ch < 1 := by omega
    go_enter Tryd.func12, Tryd.ntmps12
    go_wp2
    exact bodyPost_ret (v := .tuple #[vR zR, .int .i64 2]) (results_c2 (ad := ⟨w.heap.size, 0, none⟩) rfl rfl (load_R (Row.new w (cR zR) 32)) rfl) rfl ⟨rfl, below_alloc _ _⟩
end Go.Proofs.YtlelecnafdddhaaDoor
