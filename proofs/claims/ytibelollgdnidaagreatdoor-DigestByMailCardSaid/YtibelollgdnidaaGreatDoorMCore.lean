/- Plain words and laws over any program: arrays of bytes as values, slices that read as lists, the step laws for loads, stores and comparisons of whole arrays. -/
import Derived.WalkKit
import Derived.WalkSpells
import Derived.WalkLawsBesides
import Derived.Deep.Draws
import Derived.Lib.Hide
import Derived.Lib.AppendZeros
import Derived.Orders
import Derived.StillTail
import Derived.Test.YtibelollgdnidaaGreatDoorProg
namespace Go.Proofs.YtibelollgdnidaaGreatDoor
open Go.RowKit

abbrev Id := { l : List UInt8 // l.length = 32 }

def cB (b : UInt8) : Value := .int .u8 (b.toNat : Int)
def cI (x : Id) : List Value := x.1.map cB
def vI (x : Id) : Value := .agg (cI x).toArray

theorem cI_length (x : Id) : (cI x).length = 32 := by simp [cI, x.2]
theorem cI_one (x : Id) : ∀ u ∈ cI x, u.oneCell' = true := by
 intro u hu
 simp only [cI, List.mem_map] at hu
 obtain ⟨b, _, rfl⟩ := hu
 rfl

theorem block_of_add (a : Addr) (n : Nat) : (a.add n).block = a.block := by unfold Addr.add; split <;> rfl
theorem add_of_add (a : Addr) (i j : Nat) : (a.add i).add j = a.add (i + j) := by
 unfold Addr.add
 by_cases hi : i = 0 <;> by_cases hj : j = 0 <;> simp [hi, hj, Nat.add_assoc]

theorem flatMap_getElem {α : Type} (enc : α → List Value) (s : Nat) (hs : ∀ x, (enc x).length = s) : ∀ (xs : List α) (k : Nat) (hk : k < xs.length) (j : Nat), j < s → (xs.flatMap enc)[k * s + j]? = (enc xs[k])[j]?
 | x :: xs, 0, _, j, hj => by
  simp only [List.flatMap_cons, Nat.zero_mul, Nat.zero_add, List.getElem_cons_zero]
  rw [List.getElem?_append_left (by rw [hs]; exact hj)]
 | x :: xs, k + 1, hk, j, hj => by
  simp only [List.flatMap_cons, List.getElem_cons_succ]
  rw [List.getElem?_append_right (by rw [hs, Nat.succ_mul]; omega), hs]
  have := flatMap_getElem enc s hs xs k (by simpa using hk) j hj
  rw [← this]
  congr 1
  rw [Nat.succ_mul]
  omega
theorem flatMap_length {α : Type} (enc : α → List Value) (s : Nat) (hs : ∀ x, (enc x).length = s) (xs : List α) : (xs.flatMap enc).length = xs.length * s := by
 induction xs with
 | nil => simp
 | cons x xs ih => simp [List.flatMap_cons, ih, hs, Nat.succ_mul, Nat.add_comm]

def At (w : World) (ad : Addr) (cs : List Value) : Prop := ad.block < w.heap.size ∧ ∀ j u, cs[j]? = some u → w.cell? (ad.add j) = some u

def Sl {α : Type} (w : World) (enc : α → List Value) (A : Option Addr) (xs : List α) : Prop :=
 xs ≠ [] → ∃ ad, A = some ad ∧ At w ad (xs.flatMap enc)

theorem At.keep {w w' : World} {ad : Addr} {cs : List Value} (h : At w ad cs) (hb : Below w.heap.size w w') : At w' ad cs :=
 ⟨Nat.lt_of_lt_of_le h.1 hb.size, fun j u hu => (hb.cell (by rw [block_of_add]; exact h.1)).trans (h.2 j u hu)⟩
theorem Sl.keep {α : Type} {w w' : World} {enc : α → List Value} {A : Option Addr} {xs : List α} (h : Sl w enc A xs) (hb : Below w.heap.size w w') : Sl w' enc A xs := by
 intro hx
 obtain ⟨ad, rfl, h1⟩ := h hx
 exact ⟨ad, rfl, At.keep h1 hb⟩
theorem Sl.cut {α : Type} {w : World} {enc : α → List Value} {s : Nat} (hs : ∀ x, (enc x).length = s) {A : Option Addr} {xs : List α} (h : Sl w enc A xs) {c k : Nat} (hc : xs.length ≤ c) :
  Sl w enc (if c = k then A else A.map (·.add (k * s))) (xs.drop k) := by
 intro hx
 have hk : k < xs.length := by
  rcases Nat.lt_or_ge k xs.length with h | h
  ·exact h
  ·rw [List.drop_eq_nil_of_le h] at hx; exact absurd rfl hx
 obtain ⟨ad, rfl, hb, hcell⟩ := h (by intro e; subst e; simp at hk)
 rw [if_neg (by omega)]
 refine ⟨ad.add (k * s), rfl, by rw [block_of_add]; exact hb, fun j u hu => ?_⟩
 rw [add_of_add]
 refine hcell _ u ?_
 have e1 : xs.flatMap enc = (xs.take k).flatMap enc ++ (xs.drop k).flatMap enc := by rw [← List.flatMap_append, List.take_append_drop]
 have e2 : ((xs.take k).flatMap enc).length = k * s := by rw [flatMap_length enc s hs, List.length_take, Nat.min_eq_left (by omega)]
 rw [e1, List.getElem?_append_right (by omega), e2, show k * s + j - k * s = j from by omega]
 exact hu
theorem Sl.take {α : Type} {w : World} {enc : α → List Value} {A : Option Addr} {xs : List α} (h : Sl w enc A xs) (k : Nat) : Sl w enc A (xs.take k) := by
 intro hx
 obtain ⟨ad, rfl, hb, hcell⟩ := h (by intro e; subst e; simp at hx)
 refine ⟨ad, rfl, hb, fun j u hu => hcell j u ?_⟩
 have e1 : xs.flatMap enc = (xs.take k).flatMap enc ++ (xs.drop k).flatMap enc := by rw [← List.flatMap_append, List.take_append_drop]
 rw [e1, List.getElem?_append_left (List.getElem?_eq_some_iff.1 hu).1]
 exact hu
theorem Sl.nil {α : Type} (w : World) (enc : α → List Value) (A : Option Addr) : Sl w enc A [] := fun h => absurd rfl h

theorem Sl.at_ {α : Type} {w : World} {enc : α → List Value} {s : Nat} (hs : ∀ x, (enc x).length = s) {A : Option Addr} {xs : List α} (h : Sl w enc A xs) {k : Nat} (hk : k < xs.length) :
  ∃ ad, A = some ad ∧ At w (ad.add (k * s)) (enc xs[k]) := by
 obtain ⟨ad, rfl, hb, hc⟩ := h (by intro e; subst e; simp at hk)
 refine ⟨ad, rfl, by rw [block_of_add]; exact hb, fun j u hu => ?_⟩
 rw [add_of_add]
 refine hc _ _ ?_
 have hj : j < s := by
  rw [← hs xs[k]]
  exact (List.getElem?_eq_some_iff.1 hu).1
 rw [flatMap_getElem enc s hs xs k hk j hj]
 exact hu

theorem Sl.of_own {α : Type} {w : World} {enc : α → List Value} {base : Nat} {e : TypeId} {s : Nat} {v : Value} {xs : List α} (h : w.ownsRow base e s v xs.length (xs.flatMap enc)) :
  ∃ A c, v = .slice A xs.length c ∧ xs.length ≤ c ∧ Sl w enc A xs := by
 rcases h.2 with ⟨rfl, hx⟩ | ⟨g, cap, cur, rfl, hb, hg, hnc, hm, hsz, htake⟩
 ·refine ⟨none, 0, ?_, ?_, ?_⟩
  ·have : xs.length = 0 := by assumption
   rw [this]
  ·have : xs.length = 0 := by assumption
   omega
  ·have h0 : xs = [] := List.eq_nil_of_length_eq_zero (by assumption)
   subst h0
   exact Sl.nil _ _ _
 ·refine ⟨some ⟨g, 0, none⟩, cap, rfl, hnc, fun _ => ⟨_, rfl, (Array.getElem?_eq_some_iff.1 hg).1, ?_⟩⟩
  exact h.cells (g := g) rfl

section
variable {P : Program}
theorem run_loadVar_at (w : World) (ad : Addr) (ty : TypeId) (cs : List Value) (d : TypeDesc) (hat : At w ad cs)
  (hu : P.underlying ty = some d) (hd : (match d with | .struct _ | .array _ _ => true | _ => false) = true) (hi : (P.info? ty).map (·.size) = some cs.length) :
  (loadVar ty ad).run P w = .ok (.agg cs.toArray) w := by
 have hl : (loadCells ad cs.length).run P w = .ok cs.toArray w := run_loadCells_list (P := P) w ad cs hat.2
 cases hq : P.info? ty with
 | none => simp [hq] at hi
 | some i =>
  have hs : i.size = cs.length := by simpa [hq] using hi
  have hagg : (isAgg ty).run P w = .ok true w := by
   unfold isAgg
   rw [Sem.run_bind, run_underlying hu w]
   cases d <;> simp_all
  simp [loadVar, Sem.run_bind, hagg, sizeOf, typeInfo, hq, hs, hl]
end


/-! ### whole arrays of bytes compared -/
section
variable {P : Program} (w : World)
theorem run_part_byte (e : TypeId) (k : IntKind) (cs : Array Value) (i : Nat) (v : Value) (hu : P.underlying e = some (.int k)) (hv : cs[i]? = some v) : (part e cs i).run P w = .ok v w := by
 simp [part, isAgg, run_underlying hu, hv]
theorem run_equalIn_byte (d : Nat) (e : TypeId) (x y : UInt8) (hu : P.underlying e = some (.int .u8)) : (Op.equalIn (d + 1) e (cB x) (cB y)).run P w = .ok (decide (x = y)) w := by
 rw [cB, cB, run_equalIn_int w d e .u8 .u8 _ _ hu]
 congr 1
 by_cases h : x = y
 ·subst h; simp
 ·have : ¬ ((x.toNat : Int) = y.toNat) := fun e => h (UInt8.toNat_inj.1 (by omega))
  simp [h, this]
theorem run_bytes_loop (d : Nat) (e : TypeId) (a b : List UInt8) (he : P.underlying e = some (.int .u8)) (hab : a.length = b.length) : ∀ (m k : Nat), k + m = a.length →
  Sem.run P (forIn (List.range' k m) ((none, ()) : Option Bool × Unit) fun i __s => do
      let __do_lift ← part e (List.map cB a).toArray (i * 1)
      let __do_lift_1 ← part e (List.map cB b).toArray (i * 1)
      let __do_lift ← Op.equalIn (d + 1) e __do_lift __do_lift_1
      if (!__do_lift) = true then pure (ForInStep.done (some false, ())) else pure (ForInStep.yield (none, ()))) w
   = .ok (if a.drop k = b.drop k then (none, ()) else (some false, ())) w := by
 intro m
 induction m with
 | zero =>
  intro k hk
  have h1 : a.drop k = [] := List.drop_eq_nil_of_le (by omega)
  have h2 : b.drop k = [] := List.drop_eq_nil_of_le (by omega)
  simp [h1, h2]
 | succ m ih =>
  intro k hk
  have hka : k < a.length := by omega
  have hkb : k < b.length := by omega
  have e1 : a.drop k = a[k] :: a.drop (k + 1) := List.drop_eq_getElem_cons hka
  have e2 : b.drop k = b[k] :: b.drop (k + 1) := List.drop_eq_getElem_cons hkb
  have p1 : (part e (List.map cB a).toArray (k * 1)).run P w = .ok (cB a[k]) w := run_part_byte w e .u8 _ _ _ he (by simp [List.getElem?_eq_getElem hka])
  have p2 : (part e (List.map cB b).toArray (k * 1)).run P w = .ok (cB b[k]) w := run_part_byte w e .u8 _ _ _ he (by simp [List.getElem?_eq_getElem hkb])
  have p3 := run_equalIn_byte (P := P) w d e a[k] b[k] he
  simp only [List.range'_succ, List.forIn_cons, Sem.run_bind, p1, p2, p3, Result.andThen_ok]
  by_cases h : a[k] = b[k]
  ·have ih' := ih (k + 1) (by omega)
   simp only [h, decide_true, Bool.not_true, Bool.false_eq_true, if_false, Sem.run_pure, Result.andThen_ok]
   rw [ih']
   have key : (a.drop k = b.drop k) ↔ (a.drop (k + 1) = b.drop (k + 1)) := by rw [e1, e2, List.cons.injEq]; exact ⟨fun x => x.2, fun x => ⟨h, x⟩⟩
   simp only [key]
  ·have key : ¬ a.drop k = b.drop k := by rw [e1, e2, List.cons.injEq]; exact fun x => h x.1
   clear e1 e2 ih
   simp [h, key]
theorem run_equalIn_bytes (d n : Nat) (t e : TypeId) (i : TypeInfo) (a b : List UInt8) (ht : P.underlying t = some (.array n e)) (he : P.underlying e = some (.int .u8)) (hi : P.info? e = some i) (hs : i.size = 1)
  (ha : a.length = n) (hb : b.length = n) :
  (Op.equalIn (d + 2) t (.agg (a.map cB).toArray) (.agg (b.map cB).toArray)).run P w = .ok (decide (a = b)) w := by
 rw [Op.equalIn]
 simp only [Sem.run_bind, run_underlying ht, Result.andThen_ok, sizeOf, typeInfo, run_program, hi, hs, Sem.run_pure, Std.Legacy.Range.forIn_eq_forIn_range']
 have hl := run_bytes_loop (P := P) w d e a b he (by omega) n 0 (by omega)
 have hsz : [:n].size = n := by simp [Std.Legacy.Range.size]
 rw [hsz]
 erw [hl]
 by_cases h : a = b <;> simp [h]
end
section
variable {P : Program} (w : World)
theorem run_eql_bytes (n : Nat) (t e : TypeId) (i : TypeInfo) (a b : List UInt8) (ht : P.underlying t = some (.array n e)) (he : P.underlying e = some (.int .u8)) (hi : P.info? e = some i) (hs : i.size = 1)
  (ha : a.length = n) (hb : b.length = n) : (binOp .eql t (.agg (a.map cB).toArray) (.agg (b.map cB).toArray)).run P w = .ok (.bool (decide (a = b))) w := by
 rw [run_eql_struct, run_equalIn_bytes w 9998 n t e i a b ht he hi hs ha hb]
 rfl
theorem run_neq_bytes (n : Nat) (t e : TypeId) (i : TypeInfo) (a b : List UInt8) (ht : P.underlying t = some (.array n e)) (he : P.underlying e = some (.int .u8)) (hi : P.info? e = some i) (hs : i.size = 1)
  (ha : a.length = n) (hb : b.length = n) : (binOp .neq t (.agg (a.map cB).toArray) (.agg (b.map cB).toArray)).run P w = .ok (.bool (!decide (a = b))) w := by
 rw [run_neq_struct, run_equalIn_bytes w 9998 n t e i a b ht he hi hs ha hb]
 rfl
end


/-! ### whole arrays and structs read out of memory as one value -/
def okA (w : World) (ad : Addr) (n : Nat) : Bool := (List.range n).all fun j => (w.cell? (ad.add j)).isSome
def rdA (w : World) (ad : Addr) (n : Nat) : Value := .agg ((List.range n).map fun j => (w.cell? (ad.add j)).getD undef).toArray
theorem At.ok {w : World} {ad : Addr} {cs : List Value} (h : At w ad cs) : okA w ad cs.length = true := by
 simp only [okA, List.all_eq_true, List.mem_range]
 intro j hj
 rw [h.2 j cs[j] (List.getElem?_eq_getElem hj)]
 rfl
theorem At.rd {w : World} {ad : Addr} {cs : List Value} (h : At w ad cs) : rdA w ad cs.length = .agg cs.toArray := by
 unfold rdA
 congr 2
 refine List.ext_getElem (by simp) fun j h1 h2 => ?_
 simp only [List.getElem_map, List.getElem_range]
 rw [h.2 j cs[j] (List.getElem?_eq_getElem (by simpa using h2))]
 rfl
theorem At.of_ok {w : World} {ad : Addr} {n : Nat} (h : okA w ad n = true) : ∃ cs : List Value, cs.length = n ∧ rdA w ad n = .agg cs.toArray ∧ ∀ j u, cs[j]? = some u → w.cell? (ad.add j) = some u := by
 refine ⟨(List.range n).map fun j => (w.cell? (ad.add j)).getD undef, by simp, rfl, fun j u hu => ?_⟩
 simp only [List.getElem?_map, Option.map_eq_some_iff] at hu
 obtain ⟨k, hk, rfl⟩ := hu
 obtain ⟨hlt, rfl⟩ : j < n ∧ j = k := by
  rw [List.getElem?_eq_some_iff] at hk
  obtain ⟨h1, h2⟩ := hk
  exact ⟨by simpa using h1, by simpa using h2⟩
 simp only [okA, List.all_eq_true, List.mem_range] at h
 have := h j hlt
 cases hc : w.cell? (ad.add j) with
 | none => rw [hc] at this; cases this
 | some v => rfl
def ldA (t : TypeId) (v : Value) : Sem Value := Instr.loadAt t v
def blA (t : TypeId) (parts : Array (Nat × Value)) : Sem Value := Instr.build t parts
def ldB (t : TypeId) (v : Value) : Sem Value := Instr.loadAt t v
def bxA (t : TypeId) (v : Value) : Sem Value := Instr.box t v
section
variable {P : Program} (w : World)
theorem run_ldA (ty : TypeId) (ad : Addr) (n : Nat) (d : TypeDesc) (h : okA w ad n = true)
  (hu : P.underlying ty = some d) (hd : (match d with | .struct _ | .array _ _ => true | _ => false) = true) (hi : (P.info? ty).map (·.size) = some n) :
  (ldA ty (.pointer (some ad))).run P w = .ok (rdA w ad n) w := by
 obtain ⟨cs, hl, hr, hc⟩ := At.of_ok h
 have hlc : (loadCells ad cs.length).run P w = .ok cs.toArray w := run_loadCells_list (P := P) w ad cs hc
 cases hq : P.info? ty with
 | none => simp [hq] at hi
 | some i =>
  have hs : i.size = cs.length := by rw [hl]; simpa [hq] using hi
  have hagg : (isAgg ty).run P w = .ok true w := by
   unfold isAgg
   rw [Sem.run_bind, run_underlying hu w]
   cases d <;> simp_all
  rw [hr]
  simp [ldA, Instr.loadAt, Instr.sureAddr, loadVar, Sem.run_bind, hagg, sizeOf, typeInfo, hq, hs, hlc]
theorem run_ldA_if (ty : TypeId) (ad : Addr) (n : Nat) (d : TypeDesc)
  (hu : P.underlying ty = some d) (hd : (match d with | .struct _ | .array _ _ => true | _ => false) = true) (hi : (P.info? ty).map (·.size) = some n) :
  (ldA ty (.pointer (some ad))).run P w = if okA w ad n = true then .ok (rdA w ad n) w else (ldB ty (.pointer (some ad))).run P w := by
 split
 ·rename_i h; exact run_ldA w ty ad n d h hu hd hi
 ·rfl
theorem run_bxA (ty : TypeId) (cs : Array Value) : (bxA ty (.agg cs)).run P w = .ok (.pointer (some ⟨w.heap.size, 0, none⟩)) (w.alloc (.cells cs ty)) := by
 simp [bxA, Instr.box, newVar, newRow, newObj, Value.cells]
 rfl
theorem okA_drew (ad : Addr) (n : Nat) : okA w.drew ad n = okA w ad n := rfl
theorem rdA_drew (ad : Addr) (n : Nat) : rdA w.drew ad n = rdA w ad n := rfl
theorem okA_drewN (ad : Addr) (n k : Nat) : okA (w.drewN k) ad n = okA w ad n := rfl
theorem rdA_drewN (ad : Addr) (n k : Nat) : rdA (w.drewN k) ad n = rdA w ad n := rfl
theorem okA_alloc (o : Obj) (ad : Addr) (n : Nat) (h : ad.block < w.heap.size) : okA (w.alloc o) ad n = okA w ad n := by
 unfold okA
 congr 1
 funext j
 rw [World.cell?_alloc_lt w o _ (by rw [block_of_add]; exact h)]
theorem rdA_alloc (o : Obj) (ad : Addr) (n : Nat) (h : ad.block < w.heap.size) : rdA (w.alloc o) ad n = rdA w ad n := by
 unfold rdA
 congr 2
 refine List.map_congr_left fun j _ => ?_
 rw [World.cell?_alloc_lt w o _ (by rw [block_of_add]; exact h)]
theorem at_new (cs : List Value) (t : TypeId) (k : Nat) (hk : k = w.heap.size) : At (w.alloc (.cells cs.toArray t)) ⟨k, 0, none⟩ cs := by
 subst hk
 refine ⟨by simp, fun j u hu => ?_⟩
 have hadd : (⟨w.heap.size, 0, none⟩ : Addr).add j = ⟨w.heap.size, j, none⟩ := by unfold Addr.add; split <;> simp_all
 rw [hadd, World.cell?_alloc_at _ _ _ _ rfl]
 simpa using hu
theorem okA_new (cs : List Value) (t : TypeId) (k n : Nat) (hk : k = w.heap.size) (hn : cs.length = n) : okA (w.alloc (.cells cs.toArray t)) ⟨k, 0, none⟩ n = true := by
 subst hn
 exact (at_new w cs t k hk).ok
theorem rdA_new (cs : List Value) (t : TypeId) (k n : Nat) (hk : k = w.heap.size) (hn : cs.length = n) : rdA (w.alloc (.cells cs.toArray t)) ⟨k, 0, none⟩ n = .agg cs.toArray := by
 subst hn
 exact (at_new w cs t k hk).rd
end


/-! ### slice literals -/
theorem fold_set (off : Nat) : ∀ (l : List Value) (k : Nat) (cs : Array Value), off + k + l.length ≤ cs.size →
  ((l.zipIdx k).foldl (fun (cs : Array Value) (x : Value × Nat) => cs.setIfInBounds (off + x.2) x.1) cs).toList = cs.toList.take (off + k) ++ l ++ cs.toList.drop (off + k + l.length)
 | [], k, cs, _ => by simp
 | u :: l, k, cs, h => by
  simp only [List.length_cons] at h
  rw [List.zipIdx_cons, List.foldl_cons, fold_set off l (k + 1) (cs.setIfInBounds (off + k) u) (by simp; omega)]
  have hk : off + k < cs.toList.length := by simp; omega
  simp only [Array.toList_setIfInBounds, List.length_cons]
  rw [show off + (k + 1) = off + k + 1 from by omega, show off + k + (l.length + 1) = off + k + 1 + l.length from by omega]
  rw [List.take_succ_eq_append_getElem (by simpa using hk), List.take_set_of_le (by omega), List.drop_set_of_lt (by omega)]
  simp
theorem fill_step (s : Nat) (k : Nat) (cs : Array Value) (v : Value) (rest : List (Nat × Value)) (hv : v.cells.size = s) (hc : (k + 1) * s ≤ cs.size) :
  ∃ cs' : Array Value, Instr.fill (fun i => some (i * s, s)) cs ((k, v) :: rest) = Instr.fill (fun i => some (i * s, s)) cs' rest ∧ cs'.size = cs.size ∧
   cs'.toList = cs.toList.take (k * s) ++ v.cells.toList ++ cs.toList.drop ((k + 1) * s) := by
 have h1 : k * s + s ≤ cs.size := by rw [Nat.succ_mul] at hc; exact hc
 have hf := fold_set (k * s) v.cells.toList 0 cs (by simp only [Array.length_toList, hv]; omega)
 refine ⟨(v.cells.toList.zipIdx 0).foldl (fun (cs : Array Value) (x : Value × Nat) => cs.setIfInBounds (k * s + x.2) x.1) cs, ?_, ?_, ?_⟩
 ·rw [Instr.fill]
  simp only [hv, ne_eq, not_true_eq_false]
  rw [if_neg (by simp; omega)]
  congr 1
  rw [← Array.foldl_toList, Array.toList_zipIdx]
 ·have := congrArg List.length hf
  simp only [Array.length_toList, List.length_append, List.length_take, List.length_drop] at this
  omega
 ·rw [hf]
  simp only [Nat.add_zero, Array.length_toList, hv]
  rw [show (k + 1) * s = k * s + s from Nat.succ_mul k s]
theorem fill_all {α : Type} (enc : α → Value) (s : Nat) (hs : ∀ x, (enc x).cells.size = s) : ∀ (xs : List α) (k : Nat) (cs : Array Value), (k + xs.length) * s ≤ cs.size →
  ∃ cs' : Array Value, Instr.fill (fun i => some (i * s, s)) cs ((xs.zipIdx k).map fun x => (x.2, enc x.1)) = some cs' ∧ cs'.size = cs.size ∧
   cs'.toList = cs.toList.take (k * s) ++ xs.flatMap (fun x => (enc x).cells.toList) ++ cs.toList.drop ((k + xs.length) * s)
 | [], k, cs, _ => ⟨cs, rfl, rfl, by simp⟩
 | x :: xs, k, cs, h => by
  simp only [List.length_cons] at h
  have h1 : (k + 1) * s ≤ cs.size := Nat.le_trans (Nat.mul_le_mul_right _ (by omega)) h
  obtain ⟨c1, e1, z1, t1⟩ := fill_step s k cs (enc x) ((xs.zipIdx (k + 1)).map fun x => (x.2, enc x.1)) (hs x) h1
  obtain ⟨c2, e2, z2, t2⟩ := fill_all enc s hs xs (k + 1) c1 (by rw [z1]; exact Nat.le_trans (Nat.le_of_eq (by congr 1; omega)) h)
  refine ⟨c2, ?_, z2.trans z1, ?_⟩
  ·rw [List.zipIdx_cons, List.map_cons, e1, e2]
  ·have h2 : k * s + s ≤ cs.size := by rw [← Nat.succ_mul]; exact h1
   have hl : (cs.toList.take (k * s) ++ (enc x).cells.toList).length = (k + 1) * s := by
    simp only [List.length_append, List.length_take, Array.length_toList, hs, Nat.succ_mul]
    omega
   rw [t2, t1, List.take_append_of_le_length (by rw [hl]; exact Nat.le_refl _), List.take_of_length_le (by rw [hl]; exact Nat.le_refl _)]
   have hge : (k + 1) * s ≤ (k + 1 + xs.length) * s := Nat.mul_le_mul_right _ (by omega)
   rw [List.drop_append, List.drop_of_length_le (by rw [hl]; exact hge), hl, List.drop_drop, List.nil_append]
   rw [show (k + 1) * s + ((k + 1 + xs.length) * s - (k + 1) * s) = (k + (xs.length + 1)) * s from by rw [show k + (xs.length + 1) = k + 1 + xs.length from by omega]; omega]
   simp [List.flatMap_cons]

section
variable {P : Program} (w : World)
def bsA (t : TypeId) (len : Nat) (parts : Array (Nat × Value)) : Sem Value := Instr.buildSlice t len parts
theorem run_bsA {α : Type} (enc : α → Value) (t e : TypeId) (i : TypeInfo) (z : Value) (s : Nat) (ht : P.underlying t = some (.slice e)) (hi : P.info? e = some i) (hz : i.zero = some z) (his : i.size = s)
  (hs : ∀ x, (enc x).cells.size = s) (xs : List α) (hsmall : xs.length * s ≤ 16777216) :
  (bsA t xs.length (xs.zipIdx.map fun x => (x.2, enc x.1)).toArray).run P w = .ok (.slice (some ⟨w.heap.size, 0, none⟩) xs.length xs.length) (w.alloc (.cells (xs.flatMap (fun x => (enc x).cells.toList)).toArray e)) := by
 subst his
 have hfl : (xs.flatMap (fun x => (enc x).cells.toList)).length = xs.length * i.size := flatMap_length (fun x => (enc x).cells.toList) i.size (fun x => by simpa using hs x) xs
 unfold bsA Instr.buildSlice
 simp only [Sem.run_bind, run_underlying ht, Result.andThen_ok, sizeOf, typeInfo, run_program, hi, Sem.run_pure, zeroValue]
 rw [if_neg (by omega)]
 have key : ∀ za : Array Value, Instr.fill (fun i_1 => some (i_1 * i.size, i.size)) (Array.map (fun x => za[x % za.size]!) (Array.range (xs.length * i.size))) (List.map (fun x => (x.snd, enc x.fst)) xs.zipIdx)
   = some (xs.flatMap (fun x => (enc x).cells.toList)).toArray := by
  intro za
  obtain ⟨cs', e1, z1, t1⟩ := fill_all enc i.size hs xs 0 ((Array.range (xs.length * i.size)).map fun x => za[x % za.size]!) (by simp)
  rw [e1]
  congr 1
  apply Array.ext'
  rw [t1]
  simp
 by_cases h0 : xs.length * i.size = 0
 ·rw [if_pos h0]
  simp only [Sem.run_bind, Sem.run_pure, Result.andThen_ok, key]
  rfl
 ·rw [if_neg h0]
  simp only [Sem.run_bind, Sem.run_pure, Result.andThen_ok, run_program, hi, hz, key]
  rfl
end

/-! ### slices that the call itself makes -/
def Own {α : Type} (w : World) (base : Nat) (e : TypeId) (s : Nat) (enc : α → List Value) (v : Value) (xs : List α) : Prop := w.ownsRow base e s v xs.length (xs.flatMap enc)

section
variable {α : Type} {w w' : World} {base : Nat} {e : TypeId} {s : Nat} {enc : α → List Value} {v : Value} {xs : List α}
theorem Own.nil (w : World) (base : Nat) (e : TypeId) (s : Nat) (enc : α → List Value) : Own w base e s enc (.slice none 0 0) [] := World.ownsRow_nil w base e s
theorem Own.sl (h : Own w base e s enc v xs) : ∃ A c, v = .slice A xs.length c ∧ xs.length ≤ c ∧ Sl w enc A xs := Sl.of_own h
theorem Own.mono {base' : Nat} (h : Own w base e s enc v xs) (hb : base' ≤ base) : Own w base' e s enc v xs :=
 ⟨h.1, h.2.imp id fun ⟨g, cap, cur, a1, a2, r⟩ => ⟨g, cap, cur, a1, Nat.le_trans hb a2, r⟩⟩
theorem Own.keep (h : Own w base e s enc v xs) (hb : Below w.heap.size w w') : Own w' base e s enc v xs := by
 refine ⟨h.1, h.2.imp id fun ⟨g, cap, cur, a1, a2, a3, r⟩ => ⟨g, cap, cur, a1, a2, ?_, r⟩⟩
 rw [hb.block g (Array.getElem?_eq_some_iff.1 a3).1]
 exact a3
theorem Own.lt (h : Own w base e s enc v xs) : ∀ k, v.ownBlock = some k → base ≤ k ∧ k < w.heap.size := World.ownsRow.lt h
theorem Own.grew {B : Nat} {w0 : World} (h : Own w base e s enc v xs) (hg : w.grownBy w' v.ownBlock) (hb : Below B w0 w) (hB : B ≤ base) (hs : B ≤ w.heap.size) : Below B w0 w' :=
 hb.grown hg hs fun k hk => Nat.le_trans hB (Own.lt h k hk).1
end

section
variable {P : Program} (w : World)
theorem wp_append_sl {α : Type} {o : Oper} {a : Act} {K : Act → World → Prop} {Q : Exit → Act → World → Prop} (sx x : Operand) (t : TypeId)
  (ho : o.op = .call { callee := .builtin .append, args := #[sx, x], argTypes := #[t, t] })
  (base : Nat) (e : TypeId) (s bytes : Nat) (enc : α → List Value) (ht : P.underlying t = some (.slice e)) (hi : (P.info? e).map (fun i => (i.zero.map (·.cells.size), i.size, i.bytes)) = some (some s, s, bytes)) (hsz : 0 < s)
  (hs : ∀ x, (enc x).length = s) (h1 : ∀ x, ∀ u ∈ enc x, u.oneCell' = true)
  (v : Value) (xs : List α) (hv : a.eval sx = v) (hown : Own w base e s enc v xs)
  (A : Option Addr) (m c : Nat) (ys : List α) (hm : ys.length = m) (hx : a.eval x = .slice A m c) (hsl : Sl w enc A ys)
  (hlen : (xs.length + m) * bytes ≤ 140737488355328) (hl2 : xs.length + m ≤ 9223372036854775807) (hbase : base ≤ w.heap.size)
  (h : ∀ v' w', Own w' base e s enc v' (xs ++ ys) → w.grownBy w' v.ownBlock → K (a.put o.dst v') w') : o.wp P a w K Q := by
 subst hm
 cases hq : P.info? e with
 | none => rw [hq] at hi; cases hi
 | some i =>
  simp only [hq, Option.map_some, Option.some.injEq, Prod.mk.injEq] at hi
  obtain ⟨hz, hsi, hby⟩ := hi
  cases hz0 : i.zero with
  | none => rw [hz0] at hz; cases hz
  | some z =>
   simp only [hz0, Option.map_some, Option.some.injEq] at hz
   have hones : ∀ u ∈ ys.flatMap enc, u.oneCell' = true := by
    intro u hu
    obtain ⟨y, _, hy⟩ := List.mem_flatMap.1 hu
    exact h1 y u hy
   have fin : ∀ v' w', w'.ownsRow base e s v' (xs.length + ys.length) (xs.flatMap enc ++ ys.flatMap enc) → Own w' base e s enc v' (xs ++ ys) := by
    intro v' w' ho
    unfold Own
    rw [List.length_append, List.flatMap_append]
    exact ho
   by_cases hys : ys = []
   ·subst hys
    have hrun : (Builtin.append_ #[t, t] o.type #[v, .slice A 0 c]).run P w = .ok v w := by
     rcases hown.2 with ⟨rfl, _⟩ | ⟨g, cap, cur, rfl, _, _, hnc, _⟩
     ·cases A <;> simp [Builtin.append_, run_underlying ht, sizeOf, typeInfo, hq, Builtin.lenOf, Builtin.firstCells, loadCells, loadCellsFrom]
     ·cases A <;> simp [Builtin.append_, run_underlying ht, sizeOf, typeInfo, hq, Builtin.lenOf, Builtin.firstCells, hnc, storeCells, loadCells, loadCellsFrom]
    unfold Oper.wp execOp
    simp only [ho, resolve, invoke, builtin, Sem.run_bind, Sem.run_pure, Result.andThen_ok, List.map_toArray, List.map_cons, List.map_nil, hv, hx, List.length_nil, hrun]
    exact (h v w (fin v w (by have := hown; unfold Own at this; simpa using this)) (World.grownBy.refl w _))
   ·obtain ⟨ad, rfl, hat⟩ := hsl hys
    refine wp_append_own w sx x t ho base e i z s bytes ht hq hz0 hsi hby hz hsz v xs.length (xs.flatMap enc) hv hown ad ys.length c (ys.flatMap enc) hx
     (flatMap_length enc s hs ys) hat.2 hones (by unfold maxLen; omega) hlen hbase ?_
    intro v' w' h2 h3 _
    exact h v' w' (fin v' w' h2) h3
theorem wpList_append_sl {α : Type} {ops : Array Oper} {rest : List Oper} {o : Oper} {a : Act} {Q : Exit → Act → World → Prop} (hgd : o.guard = none) (sx x : Operand) (t : TypeId)
  (ho : o.op = .call { callee := .builtin .append, args := #[sx, x], argTypes := #[t, t] })
  (base : Nat) (e : TypeId) (s bytes : Nat) (enc : α → List Value) (ht : P.underlying t = some (.slice e)) (hi : (P.info? e).map (fun i => (i.zero.map (·.cells.size), i.size, i.bytes)) = some (some s, s, bytes)) (hsz : 0 < s)
  (hs : ∀ x, (enc x).length = s) (h1 : ∀ x, ∀ u ∈ enc x, u.oneCell' = true)
  (v : Value) (xs : List α) (hv : a.eval sx = v) (hown : Own w base e s enc v xs)
  (A : Option Addr) (m c : Nat) (ys : List α) (hm : ys.length = m) (hx : a.eval x = .slice A m c) (hsl : Sl w enc A ys)
  (hlen : (xs.length + m) * bytes ≤ 140737488355328) (hl2 : xs.length + m ≤ 9223372036854775807) (hbase : base ≤ w.heap.size)
  (h : ∀ v' w', Own w' base e s enc v' (xs ++ ys) → w.grownBy w' v.ownBlock → wpList P ops Q rest (a.put o.dst v') w') : wpList P ops Q (o :: rest) a w :=
 wpList_plain hgd fun _ hK => wp_append_sl w sx x t ho base e s bytes enc ht hi hsz hs h1 v xs hv hown A m c ys hm hx hsl hlen hl2 hbase fun v' w' h2 h3 => hK _ _ (h v' w' h2 h3)
end


def apA (ts : Array TypeId) (ty : TypeId) (args : Array Value) : Sem Value := Builtin.append_ ts ty args
@[go_sem ↓] theorem append_apA (ts : Array TypeId) (ty : TypeId) (args : Array Value) : Builtin.append_ ts ty args = apA ts ty args := rfl


/-! ### whole arrays and structs stored into variables of the call's own -/
def rowOk (w : World) (g n : Nat) : Bool := match w.heap[g]? with | some (.cells cs _ (0, 0)) => cs.size == n | _ => false
def stA (t : TypeId) (v u : Value) : Sem Unit := Instr.storeAt t v u
def stB (t : TypeId) (v u : Value) : Sem Unit := Instr.storeAt t v u
def alA (t : TypeId) (h : Bool) (v : Value) : Sem Value := Instr.alloc t h v
section
variable {P : Program} (w : World)
theorem run_stA (ty : TypeId) (g : Nat) (cells : Array Value) (n : Nat) (h : rowOk w g n = true) (hi : (P.info? ty).map (·.size) = some n) (hn : cells.size = n) (h1 : cells.all (·.oneCell') = true) :
  (stA ty (.pointer (some ⟨g, 0, none⟩)) (.agg cells)).run P w = .ok () (w.setRow g cells) := by
 unfold rowOk at h
 split at h
 ·rename_i cs t hg
  simp only [beq_iff_eq] at h
  simp only [stA, Instr.storeAt, Instr.sureAddr, Sem.run_bind, Sem.run_pure, Result.andThen_ok]
  exact run_storeVar_row w g t ty cs cells hg (by rw [hi, hn]) (by omega) h1
 ·cases h
theorem run_stA_if (ty : TypeId) (g : Nat) (cells : Array Value) (n : Nat) (hi : (P.info? ty).map (·.size) = some n) (hn : cells.size = n) (h1 : cells.all (·.oneCell') = true) :
  (stA ty (.pointer (some ⟨g, 0, none⟩)) (.agg cells)).run P w = if rowOk w g n = true then .ok () (w.setRow g cells) else (stB ty (.pointer (some ⟨g, 0, none⟩)) (.agg cells)).run P w := by
 split
 ·rename_i h; exact run_stA w ty g cells n h hi hn h1
 ·rfl
theorem rowOk_drew (g n : Nat) : rowOk w.drew g n = rowOk w g n := rfl
theorem rowOk_drewN (g n k : Nat) : rowOk (w.drewN k) g n = rowOk w g n := rfl
theorem rowOk_new (cs : Array Value) (t : TypeId) (g n : Nat) (hg : g = w.heap.size) (hn : cs.size = n) : rowOk (w.alloc (.cells cs t)) g n = true := by
 subst hg
 unfold rowOk
 rw [heap_alloc_new]
 simpa using hn
theorem rowOk_alloc (o : Obj) (g n : Nat) (hg : g < w.heap.size) : rowOk (w.alloc o) g n = rowOk w g n := by
 unfold rowOk
 rw [Below.heap_alloc w o g hg]
theorem setRow_new (c cs : Array Value) (t : TypeId) (g : Nat) (hg : g = w.heap.size) : (w.alloc (.cells c t)).setRow g cs = w.alloc (.cells cs t) := by
 subst hg
 show World.setRow { w with heap := w.heap.push (.cells c t) } w.heap.size cs = { w with heap := w.heap.push (.cells cs t) }
 unfold World.setRow
 congr 1
 apply Array.ext
 ·simp
 ·intro i h1 h2
  simp only [Array.getElem_modify, Array.getElem_push]
  by_cases hi : i < w.heap.size
  ·simp [hi, Nat.ne_of_gt hi]
  ·have : i = w.heap.size := by simp at h2; omega
   subst this
   simp
theorem setRow_alloc (o : Obj) (cs : Array Value) (g : Nat) (hg : g < w.heap.size) : (w.alloc o).setRow g cs = (w.setRow g cs).alloc o := by
 show World.setRow { w with heap := w.heap.push o } g cs = { (w.setRow g cs) with heap := (w.setRow g cs).heap.push o }
 unfold World.setRow
 congr 1
 apply Array.ext
 ·simp
 ·intro i h1 h2
  simp only [Array.getElem_modify, Array.getElem_push, Array.size_modify]
  by_cases hi : i < w.heap.size
  ·simp [hi]
  ·have : i = w.heap.size := by simp at h2; omega
   subst this
   simp [Nat.ne_of_lt hg]
theorem setRow_drew (cs : Array Value) (g : Nat) : w.drew.setRow g cs = (w.setRow g cs).drew := rfl
theorem setRow_drewN (cs : Array Value) (g k : Nat) : (w.drewN k).setRow g cs = (w.setRow g cs).drewN k := rfl
end

end Go.Proofs.YtibelollgdnidaaGreatDoor
namespace Go.Proofs.YtibelollgdnidaaGreatDoor
open Go.RowKit
namespace AnyO
variable {P : Program} {ops : Array Oper}

def dst (ops : Array Oper) (i : Nat) : Option Tmp := (ops[i]?).bind (·.dst)
def pre (ops : Array Oper) (i : Nat) : List Nat :=
 match ops[i]? with
 | some o => o.after.toList.filterMap fun e => if Region.binds .any e then some e.on else none
 | none => []
def puts (ops : Array Oper) (vs : Nat → Value) (l : List Nat) (a : Act) : Act := l.foldl (fun a i => a.put (dst ops i) (vs i)) a
def ok (ops : Array Oper) : Bool :=
 (List.range ops.size).all fun i =>
  ((pre ops i).all fun j => decide (j < i)) &&
  ((List.range ops.size).all fun j => j == i || (match dst ops i, dst ops j with | some d, some e => d != e | _, _ => true)) &&
  (match ops[i]? with
   | some o => (match o.op with | .select .. => false | .defer _ => false | _ => true) && (o.looksAt ops).all fun t => (List.range ops.size).all fun j => (match dst ops j with | some e => e != t | none => true) || (pre ops i).contains j || (pre ops j).contains i
   | none => true)

theorem put_size (a : Act) (d : Option Tmp) (v : Value) : (a.put d v).tmps.size = a.tmps.size := by cases d <;> simp [Act.put]
theorem put_defers (a : Act) (d : Option Tmp) (v : Value) : (a.put d v).defers = a.defers := by cases d <;> simp [Act.put]
theorem put_get_ne (a : Act) (d : Option Tmp) (v : Value) (s : Nat) (h : d ≠ some s) : (a.put d v).tmps[s]? = a.tmps[s]? := by
 cases d with
 | none => rfl
 | some d => simp [Act.put, Array.getElem?_setIfInBounds_ne (show d ≠ s from fun e => h (by rw [e]))]
theorem put_get_eq (a : Act) (v : Value) (s : Nat) (h : s < a.tmps.size) : (a.put (some s) v).tmps[s]? = some v := by
 simp [Act.put, h]
theorem puts_cons (vs : Nat → Value) (i : Nat) (l : List Nat) (a : Act) : puts ops vs (i :: l) a = puts ops vs l (a.put (dst ops i) (vs i)) := rfl
theorem puts_snoc (vs : Nat → Value) (i : Nat) (l : List Nat) (a : Act) : puts ops vs (l ++ [i]) a = (puts ops vs l a).put (dst ops i) (vs i) := by
 unfold puts; rw [List.foldl_append]; rfl
theorem puts_size (vs : Nat → Value) : ∀ (l : List Nat) (a : Act), (puts ops vs l a).tmps.size = a.tmps.size
 | [], _ => rfl
 | i :: l, a => by rw [puts_cons, puts_size vs l, put_size]
theorem puts_defers (vs : Nat → Value) : ∀ (l : List Nat) (a : Act), (puts ops vs l a).defers = a.defers
 | [], _ => rfl
 | i :: l, a => by rw [puts_cons, puts_defers vs l, put_defers]
theorem puts_none (vs : Nat → Value) (s : Nat) : ∀ (l : List Nat) (a : Act), (∀ i ∈ l, dst ops i ≠ some s) → (puts ops vs l a).tmps[s]? = a.tmps[s]?
 | [], _, _ => rfl
 | i :: l, a, h => by
  rw [puts_cons, puts_none vs s l _ (fun j hj => h j (List.mem_cons_of_mem _ hj)), put_get_ne _ _ _ _ (h i (List.mem_cons_self ..))]
theorem puts_some (vs : Nat → Value) (s i : Nat) (hd : dst ops i = some s) : ∀ (l : List Nat) (a : Act), s < a.tmps.size → i ∈ l → (∀ j ∈ l, dst ops j = some s → j = i) → (puts ops vs l a).tmps[s]? = some (vs i)
 | [], _, _, h, _ => by cases h
 | j :: l, a, hs, h, hu => by
  rw [puts_cons]
  by_cases hil : i ∈ l
  ·exact puts_some vs s i hd l _ (by rw [put_size]; exact hs) hil (fun k hk => hu k (List.mem_cons_of_mem _ hk))
  ·have hji : j = i := by
    rcases List.mem_cons.1 h with h | h
    ·exact h.symm
    ·exact absurd h hil
   subst hji
   rw [puts_none vs s l _ (fun k hk e => hil (by have := hu k (List.mem_cons_of_mem _ hk) e; subst this; exact hk)), hd]
   exact put_get_eq _ _ _ hs
theorem act_ext {a b : Act} (h1 : a.tmps.size = b.tmps.size) (h2 : a.defers = b.defers) (h : ∀ s : Nat, s < a.tmps.size → a.tmps[s]? = b.tmps[s]?) : a = b := by
 cases a with | mk ta da =>
 cases b with | mk tb db =>
 simp only at h1 h2 h
 subst h2
 congr 1
 apply Array.ext h1
 intro i hi hj
 have := h i hi
 rw [Array.getElem?_eq_getElem hi, Array.getElem?_eq_getElem hj] at this
 exact Option.some.inj this

def Once (ops : Array Oper) : Prop := ∀ i j s, dst ops i = some s → dst ops j = some s → i = j
theorem puts_same (ho : Once ops) (vs vs' : Nat → Value) (l l' : List Nat) (a : Act) (hl : ∀ i, i ∈ l ↔ i ∈ l') (hv : ∀ i ∈ l, vs i = vs' i) : puts ops vs l a = puts ops vs' l' a := by
 refine act_ext (by rw [puts_size, puts_size]) (by rw [puts_defers, puts_defers]) fun s hs => ?_
 rw [puts_size] at hs
 by_cases h : ∃ i, i ∈ l ∧ dst ops i = some s
 ·obtain ⟨i, hi, hd⟩ := h
  rw [puts_some vs s i hd l a hs hi (fun j _ hj => ho j i s hj hd), puts_some vs' s i hd l' a hs ((hl i).1 hi) (fun j _ hj => ho j i s hj hd), hv i hi]
 ·have h1 : ∀ i ∈ l, dst ops i ≠ some s := fun i hi e => h ⟨i, hi, e⟩
  rw [puts_none vs s l a h1, puts_none vs' s l' a (fun i hi => h1 i ((hl i).2 hi))]

theorem wp_frame {o : Oper} {a b : Act} {w : World} {R : Value → World → Prop} (he : execOp b.eval o = execOp a.eval o) (hs : a.tmps.size = b.tmps.size) (Q : Exit → Act → World → Prop)
  (h : o.wp P a w (fun a' w' => ∃ v, a' = a.put o.dst v ∧ R v w') (fun _ _ _ => False)) : o.wp P b w (fun a' w' => ∃ v, a' = b.put o.dst v ∧ R v w') Q := by
 have key : ∀ v w', (∃ u, a.put o.dst v = a.put o.dst u ∧ R u w') → ∃ u, b.put o.dst v = b.put o.dst u ∧ R u w' := by
  rintro v w' ⟨u, hu, hr⟩
  cases hd : o.dst with
  | none => exact ⟨u, rfl, hr⟩
  | some d =>
   refine ⟨u, ?_, hr⟩
   rw [hd] at hu
   by_cases hlt : d < a.tmps.size
   ·have h1 := put_get_eq a v d hlt
    rw [hu, put_get_eq a u d hlt] at h1
    rw [Option.some.inj h1]
   ·have hb : ¬ d < b.tmps.size := fun h => hlt (hs ▸ h)
    simp [Act.put, Array.setIfInBounds, hb]
 unfold Oper.wp at *
 rw [he]
 generalize (execOp a.eval o).run P w = r at *
 cases r with
 | ok n w' =>
  cases n with
  | value v => exact key v w' h
  | skip => exact key undef w' h
  | defer d =>
   obtain ⟨u, hu, _⟩ := h
   have := congrArg Act.defers hu
   rw [put_defers, put_defers] at this
   exact absurd this (by simp)
  | enter f args =>
   refine Calls.mono h fun e w'' hh => ?_
   cases e with
   | returned v => exact key v w'' hh
   | panicked c => exact hh.elim
   | outgrown => obtain ⟨_, _, hf⟩ := hh; exact hf.elim
  | row row args => exact Rows.mono h fun v w'' hh => key v w'' hh
  | _ => exact h.elim
 | halt x w' =>
  cases x with
  | panic v => exact h.elim
  | _ => exact h.elim

variable {Q : Exit → Act → World → Prop}

def Step (P : Program) (ops : Array Oper) (Post : Nat → Value → World → Prop) (a0 : Act) (w0 : World) (i : Nat) : Prop :=
 ∀ o, ops[i]? = some o → ∀ (vs : Nat → Value) (w : World), Below w0.heap.size w0 w → (∀ j ∈ pre ops i, Post j (vs j) w) →
  ∀ K : Act → World → Prop, (∀ v w', Below w.heap.size w w' → Post i v w' → K ((puts ops vs (pre ops i) a0).put o.dst v) w') →
   if Region.wanted o (yielded ops (puts ops vs (pre ops i) a0).tmps) = true then o.wp P (puts ops vs (pre ops i) a0) w K (fun _ _ _ => False) else K ((puts ops vs (pre ops i) a0).put o.dst undef) w

theorem Step.mk {Post : Nat → Value → World → Prop} {a0 : Act} {w0 : World} {i : Nat} {o : Oper} (ho : ops[i]? = some o) (l : List Nat) (hl : pre ops i = l)
  (h : ∀ (vs : Nat → Value) (w : World), Below w0.heap.size w0 w → (∀ j ∈ l, Post j (vs j) w) → ∀ b : Act, b = puts ops vs l a0 →
   ∀ K : Act → World → Prop, (∀ v w', Below w.heap.size w w' → Post i v w' → K (b.put o.dst v) w') →
    if Region.wanted o (yielded ops b.tmps) = true then o.wp P b w K (fun _ _ _ => False) else K (b.put o.dst undef) w) : Step P ops Post a0 w0 i := by
 subst hl
 intro o' ho' vs w hE hp K hK
 rw [ho] at ho'
 injection ho' with ho'
 subst ho'
 exact h vs w hE hp _ rfl K hK
theorem slot {a b : Act} (k : Nat) {x v : Value} (hb : a = b) (h : b.tmps[k]?.getD undef = x) (hx : x = v) : a.tmps[k]?.getD undef = v := by rw [hb, h, hx]
theorem wanted_none {o : Oper} {y : Nat → Option Bool} (h : o.guard = none) : Region.wanted o y = true := by simp [Region.wanted, h]
theorem sz {ops : Array Oper} {vs : Nat → Value} {l : List Nat} {a0 b : Act} {v : Value} (k : Nat) (hb : Hid (b = puts ops vs l a0)) (h : (puts ops vs l a0).tmps[k]?.getD undef = v := by kernel_rfl) : b.tmps[k]?.getD undef = v := by rw [hb.out, h]
theorem sw {ops : Array Oper} {vs : Nat → Value} {l : List Nat} {a0 b : Act} {Post : Nat → Value → World → Prop} {u : World} (k j : Nat) (hb : Hid (b = puts ops vs l a0)) (hp : Hid (∀ j ∈ l, Post j (vs j) u)) (hm : j ∈ l := by decide +kernel) (h : (puts ops vs l a0).tmps[k]?.getD undef = vs j := by kernel_rfl) : Post j (b.tmps[k]?.getD undef) u := by
 rw [hb.out, h]
 exact hp.out j hm
theorem sv {ops : Array Oper} {vs : Nat → Value} {l : List Nat} {a0 b : Act} {D : Nat → Bool} {PV : Nat → Value → Prop} {X : Prop} (k j : Nat) (hb : Hid (b = puts ops vs l a0)) (hp : Hid (∀ j ∈ l, D j = true)) (Q : Hid ((∀ j, D j = true → PV j (vs j)) ∧ X)) (hm : j ∈ l := by decide +kernel) (h : (puts ops vs l a0).tmps[k]?.getD undef = vs j := by kernel_rfl) : PV j (b.tmps[k]?.getD undef) := by
 rw [hb.out, h]
 exact Q.out.1 j (hp.out j hm)
theorem sl {a b : Act} (k : Nat) {x v : Value} (hb : Hid (a = b)) (hx : x = v) (h : b.tmps[k]?.getD undef = x := by kernel_rfl) : a.tmps[k]?.getD undef = v := by rw [hb.out, h, hx]
theorem S {Post : Nat → Value → World → Prop} {a0 : Act} {w0 : World} {i : Nat} {o : Oper} (ho : ops[i]? = some o) (l : List Nat)
  (h : ∀ (vs : Nat → Value) (w : World), Below w0.heap.size w0 w → Hid (∀ j ∈ l, Post j (vs j) w) → ∀ b : Act, Hid (b = puts ops vs l a0) →
   ∀ K : Act → World → Prop, (∀ v w', Below w.heap.size w w' → Post i v w' → K (b.put o.dst v) w') → o.wp P b w K (fun _ _ _ => False))
  (hl : pre ops i = l := by kernel_rfl) (hg : o.guard = none := by rfl) : Step P ops Post a0 w0 i :=
 Step.mk ho l hl fun vs w hE hp b hb K hK => by
  rw [if_pos (wanted_none hg)]
  exact h vs w hE (Lib.hid hp) b (Lib.hid hb) K hK
theorem T {Post : Nat → Value → World → Prop} {a0 : Act} {w0 : World} {i : Nat} {o : Oper} (ho : ops[i]? = some o)
  (h : ∀ (vs : Nat → Value) (w : World), Below w0.heap.size w0 w → Hid (∀ j ∈ pre ops i, Post j (vs j) w) → ∀ b : Act, Hid (b = puts ops vs (pre ops i) a0) →
   ∀ K : Act → World → Prop, (∀ v w', Below w.heap.size w w' → Post i v w' → K (b.put o.dst v) w') → o.wp P b w K (fun _ _ _ => False))
  (hg : o.guard = none := by rfl) : Step P ops Post a0 w0 i := S ho _ h rfl hg
theorem wanted_some {o : Oper} {b : Act} {g t : Nat} {want : Bool} (h : o.guard = some (g, want)) (hd : dst ops g = some t) (hv : b.tmps[t]?.getD undef = .bool want) : Region.wanted o (yielded ops b.tmps) = true := by
 unfold Region.wanted
 rw [h]
 show (yielded ops b.tmps g == some want) = true
 unfold yielded
 have hd' : (ops[g]?).bind (·.dst) = some t := hd
 rw [hd']
 show ((match b.tmps[t]? with | some (.bool b) => some b | _ => none) == some want) = true
 cases ht : b.tmps[t]? with
 | none => rw [ht] at hv; cases hv
 | some v =>
  rw [ht] at hv
  simp only [Option.getD_some] at hv
  subst hv
  simp
def unl (ops : Array Oper) (listed : Array Bool) : List Nat := (List.range ops.size).filter fun i => !listed.getD i false
def listedL (ops : Array Oper) (listed : Array Bool) : List Nat := (List.range ops.size).filter fun i => listed.getD i false

theorem walk (hok : ok ops = true) (Post : Nat → Value → World → Prop) (hmono : ∀ i v w w', Below w.heap.size w w' → Post i v w → Post i v w') (a0 : Act) (w0 : World)
  (hstep : ∀ i, i < ops.size → Step P ops Post a0 w0 i)
  (hfin : ∀ (vs : Nat → Value) (w : World), Below w0.heap.size w0 w → (∀ i, i < ops.size → Post i (vs i) w) → Q .normal (puts ops vs (List.range ops.size) a0) w) :
  ∀ (fuel : Nat) (listed : Array Bool) (vs : Nat → Value) (w : World), listed.size = ops.size → (unl ops listed).length ≤ fuel → Below w0.heap.size w0 w →
   (∀ i, listed.getD i false = true → Post i (vs i) w) → (∀ i, listed.getD i false = true → ∀ j ∈ pre ops i, listed.getD j false = true) → wpAny P .any ops Q fuel listed (puts ops vs (listedL ops listed) a0) w := by
 have hspec : ∀ i, i < ops.size → (∀ j ∈ pre ops i, j < i) ∧ (∀ j, j < ops.size → j ≠ i → ∀ s, dst ops i = some s → dst ops j ≠ some s) ∧
   (∀ o, ops[i]? = some o → (∀ cs b, o.op ≠ .select cs b) ∧ ∀ t ∈ o.looksAt ops, ∀ j, j < ops.size → dst ops j = some t → j ∈ pre ops i ∨ i ∈ pre ops j) := by
  intro i hi
  have h := List.all_eq_true.1 hok i (List.mem_range.2 hi)
  simp only [Bool.and_eq_true] at h
  obtain ⟨⟨h1, h2⟩, h3⟩ := h
  refine ⟨fun j hj => by simpa using List.all_eq_true.1 h1 j hj, fun j hj hne s hs hs' => ?_, fun o ho => ?_⟩
  ·have := List.all_eq_true.1 h2 j (List.mem_range.2 hj)
   rw [hs, hs'] at this
   simp [hne] at this
  ·rw [ho] at h3
   simp only [Bool.and_eq_true] at h3
   refine ⟨fun cs b e => by rw [e] at h3; simp at h3, fun t ht j hj hd => ?_⟩
   have := List.all_eq_true.1 (List.all_eq_true.1 h3.2 t ht) j (List.mem_range.2 hj)
   rw [hd] at this
   simpa using this
 have hlt : ∀ i s, dst ops i = some s → i < ops.size := fun i s h => by
  unfold dst at h
  rcases Nat.lt_or_ge i ops.size with h' | h'
  ·exact h'
  ·rw [Array.getElem?_eq_none h'] at h; cases h
 have honce : Once ops := fun i j s hi hj => by
  by_cases e : j = i
  ·exact e.symm
  ·exact absurd hj ((hspec i (hlt i s hi)).2.1 j (hlt j s hj) e s hi)
 have hready : ∀ listed : Array Bool, listed.size = ops.size → Region.ready .any ops listed = [] → ∀ i, i < ops.size → listed.getD i false = true := by
  intro listed hsz hr i
  induction i using Nat.strongRecOn with
  | ind i ih =>
   intro hi
   rcases hb : listed.getD i false with _ | _
   ·exfalso
    have hmem : i ∈ Region.ready .any ops listed := by
     rw [mem_ready]
     refine ⟨?_, ops[i], Array.getElem?_eq_getElem hi, fun e he hbi => ?_⟩
     ·rw [Array.getD_eq_getD_getElem?, Array.getElem?_eq_getElem (by omega)] at hb ⊢
      simpa using hb
     ·have hp : e.on ∈ pre ops i := by
       unfold pre
       rw [Array.getElem?_eq_getElem hi]
       exact List.mem_filterMap.2 ⟨e, by simpa using he, by simp [hbi]⟩
      have := (hspec i hi).1 _ hp
      exact ih _ this (by omega)
    rw [hr] at hmem
    cases hmem
   ·rfl
 intro fuel
 induction fuel with
 | zero =>
  intro listed vs w hsz hfu hE hP hC
  have hall : ∀ i, i < ops.size → listed.getD i false = true := by
   intro i hi
   have hnil : unl ops listed = [] := List.eq_nil_of_length_eq_zero (by omega)
   unfold unl at hnil
   rw [List.filter_eq_nil_iff] at hnil
   have := hnil i (List.mem_range.2 hi)
   simpa using this
  have hset : puts ops vs (listedL ops listed) a0 = puts ops vs (List.range ops.size) a0 :=
   puts_same honce vs vs _ _ a0 (fun i => by
    unfold listedL
    rw [List.mem_filter, List.mem_range]
    exact ⟨fun h => h.1, fun h => ⟨h, hall i h⟩⟩) (fun _ _ => rfl)
  refine ⟨?_, ?_⟩
  ·cases hr : Region.ready .any ops listed with
   | nil => rfl
   | cons i l =>
    exfalso
    have hm : i ∈ Region.ready .any ops listed := by rw [hr]; exact List.mem_cons_self ..
    rw [mem_ready] at hm
    obtain ⟨h0, o, ho, _⟩ := hm
    have hi : i < ops.size := (Array.getElem?_eq_some_iff.1 ho).1
    have := hall i hi
    rw [Array.getD_eq_getD_getElem?, Array.getElem?_eq_getElem (by omega)] at h0 this
    simp at h0 this
    rw [h0] at this
    cases this
  ·rw [hset]
   exact hfin vs w hE fun i hi => hP i (hall i hi)
 | succ fuel ih =>
  intro listed vs w hsz hfu hE hP hC
  refine ⟨fun hr => ?_, fun i hi => ?_⟩
  ·have hall := hready listed hsz hr
   have hset : puts ops vs (listedL ops listed) a0 = puts ops vs (List.range ops.size) a0 :=
    puts_same honce vs vs _ _ a0 (fun i => by
     unfold listedL
     rw [List.mem_filter, List.mem_range]
     exact ⟨fun h => h.1, fun h => ⟨h, hall i h⟩⟩) (fun _ _ => rfl)
   rw [hset]
   exact hfin vs w hE fun i hi => hP i (hall i hi)
  ·rw [mem_ready] at hi
   obtain ⟨h0, o, ho, hall⟩ := hi
   have hi' : i < ops.size := (Array.getElem?_eq_some_iff.1 ho).1
   have h0' : listed.getD i false = false := by
    rw [Array.getD_eq_getD_getElem?, Array.getElem?_eq_getElem (by omega)] at h0 ⊢
    simpa using h0
   have hpre : ∀ j ∈ pre ops i, listed.getD j false = true := by
    intro j hj
    unfold pre at hj
    rw [ho] at hj
    obtain ⟨e, he, hb⟩ := List.mem_filterMap.1 hj
    split at hb
    ·rename_i hbi
     injection hb with hb
     subst hb
     exact hall e (by simpa using he) hbi
    ·cases hb
   obtain ⟨hp1, hp2, hp3⟩ := hspec i hi'
   obtain ⟨hsel, hlook⟩ := hp3 o ho
   -- the frame that the operation sees
   have hsee : ∀ t ∈ o.looksAt ops, (puts ops vs (pre ops i) a0).tmps[t]? = (puts ops vs (listedL ops listed) a0).tmps[t]? := by
    intro t ht
    by_cases hw : ∃ j, j < ops.size ∧ dst ops j = some t
    ·obtain ⟨j, hj, hd⟩ := hw
     rcases hlook t ht j hj hd with hpj | hpi
     ·have hlj : j ∈ listedL ops listed := by
       unfold listedL
       rw [List.mem_filter, List.mem_range]
       exact ⟨hj, hpre j hpj⟩
      by_cases hts : t < a0.tmps.size
      ·rw [puts_some vs t j hd _ a0 hts hpj (fun k _ hk => honce k j t hk hd), puts_some vs t j hd _ a0 hts hlj (fun k _ hk => honce k j t hk hd)]
      ·have n1 : (puts ops vs (pre ops i) a0).tmps[t]? = none := Array.getElem?_eq_none (by rw [puts_size]; exact Nat.le_of_not_lt hts)
       have n2 : (puts ops vs (listedL ops listed) a0).tmps[t]? = none := Array.getElem?_eq_none (by rw [puts_size]; exact Nat.le_of_not_lt hts)
       rw [n1, n2]
     ·have hnl : listed.getD j false = false := by
       rcases hb : listed.getD j false with _ | _
       ·rfl
       ·exfalso
        have := hC j hb i hpi
        rw [h0'] at this
        cases this
      have h1 : ∀ k ∈ pre ops i, dst ops k ≠ some t := fun k hk e => by
       have := honce k j t e hd
       subst this
       have := (hspec k hj).1 i hpi
       have := hp1 k hk
       omega
      have h2 : ∀ k ∈ listedL ops listed, dst ops k ≠ some t := fun k hk e => by
       have := honce k j t e hd
       subst this
       unfold listedL at hk
       rw [List.mem_filter] at hk
       rw [hnl] at hk
       cases hk.2
      rw [puts_none vs t _ a0 h1, puts_none vs t _ a0 h2]
    ·have h1 : ∀ l : List Nat, ∀ k ∈ l, dst ops k ≠ some t := fun l k _ e => hw ⟨k, hlt k t e, e⟩
     rw [puts_none vs t _ a0 (h1 _), puts_none vs t _ a0 (h1 _)]
   have hex : execOp (puts ops vs (listedL ops listed) a0).eval o = execOp (puts ops vs (pre ops i) a0).eval o := by
    refine execOp_congr o hsel fun x hx => ?_
    cases x with
    | tmp t =>
     have := hsee t (List.mem_append_left _ (List.mem_filterMap.2 ⟨.tmp t, by simpa using hx, rfl⟩))
     simp [Act.eval, this]
    | _ => rfl
   have hwant : Region.wanted o (yielded ops (puts ops vs (listedL ops listed) a0).tmps) = Region.wanted o (yielded ops (puts ops vs (pre ops i) a0).tmps) := by
    unfold Region.wanted
    cases hg : o.guard with
    | none => rfl
    | some gw =>
     obtain ⟨g, want⟩ := gw
     have hy : yielded ops (puts ops vs (listedL ops listed) a0).tmps g = yielded ops (puts ops vs (pre ops i) a0).tmps g := by
      unfold yielded
      cases ht : (ops[g]?).bind (·.dst) with
      | none => rfl
      | some t =>
       have := hsee t (by simp [Oper.looksAt, hg, ht])
       simp [this]
     simp only [hy]
   have hst := hstep i hi' o ho vs w hE (fun j hj => hP j (hpre j hj)) (fun a' w' => ∃ v, a' = (puts ops vs (pre ops i) a0).put o.dst v ∧ (Below w.heap.size w w' ∧ Post i v w')) (fun v w' h1 h2 => ⟨v, rfl, h1, h2⟩)
   have hdst : dst ops i = o.dst := by unfold dst; rw [ho]; rfl
   have hnext : ∀ v w', Below w.heap.size w w' ∧ Post i v w' → wpAny P .any ops Q fuel (listed.setIfInBounds i true) ((puts ops vs (listedL ops listed) a0).put o.dst v) w' := by
    rintro v w' ⟨h1, h2⟩
    have hE' : Below w0.heap.size w0 w' := hE.trans (h1.mono hE.size)
    have hil : i ∉ listedL ops listed := by
     unfold listedL
     rw [List.mem_filter]
     rintro ⟨_, h⟩
     rw [h0'] at h
     cases h
    let vs' : Nat → Value := fun j => if j = i then v else vs j
    have hmem : ∀ j, (listed.setIfInBounds i true).getD j false = true ↔ (j = i ∨ listed.getD j false = true) := by
     intro j
     by_cases hji : j = i
     ·subst hji
      simp [show j < listed.size by omega]
     ·rw [getD_set_ne false (Ne.symm hji)]
      simp [hji]
    have heq : (puts ops vs (listedL ops listed) a0).put o.dst v = puts ops vs' (listedL ops (listed.setIfInBounds i true)) a0 := by
     have e1 : puts ops vs (listedL ops listed) a0 = puts ops vs' (listedL ops listed) a0 := puts_same honce vs vs' _ _ a0 (fun _ => Iff.rfl) (fun j hj => by
      have : j ≠ i := fun e => hil (e ▸ hj)
      simp [vs', this])
     have e2 : ((puts ops vs' (listedL ops listed) a0).put o.dst v) = puts ops vs' (listedL ops listed ++ [i]) a0 := by
      rw [puts_snoc, hdst]
      simp [vs']
     rw [e1, e2]
     refine puts_same honce vs' vs' _ _ a0 (fun j => ?_) (fun _ _ => rfl)
     unfold listedL
     rw [List.mem_append, List.mem_filter, List.mem_filter, hmem j, List.mem_singleton, List.mem_range]
     constructor
     ·rintro (⟨hj, hl⟩ | rfl)
      ·exact ⟨hj, Or.inr hl⟩
      ·exact ⟨hi', Or.inl rfl⟩
     ·rintro ⟨hj, rfl | hl⟩
      ·exact Or.inr rfl
      ·exact Or.inl ⟨hj, hl⟩
    rw [heq]
    refine ih _ vs' w' (by simpa using hsz) ?_ hE' ?_ ?_
    ·have hun : unl ops (listed.setIfInBounds i true) = (unl ops listed).filter (fun j => j != i) := by
      unfold unl
      rw [List.filter_filter]
      refine List.filter_congr fun j hj => ?_
      rw [Bool.eq_iff_iff]
      have hm := hmem j
      by_cases hji : j = i
      ·subst hji
       have : (listed.setIfInBounds j true).getD j false = true := hm.2 (Or.inl rfl)
       rw [this]
       simp
      ·rw [getD_set_ne false (Ne.symm hji)]
       simp [hji]
     have hlt2 : ((unl ops listed).filter (fun j => j != i)).length < (unl ops listed).length := by
      rw [List.length_filter_lt_length_iff_exists]
      refine ⟨i, ?_, by simp⟩
      unfold unl
      rw [List.mem_filter, List.mem_range, h0']
      exact ⟨hi', rfl⟩
     rw [hun]
     omega
    ·intro j hj
     by_cases hji : j = i
     ·subst hji
      simpa [vs'] using h2
     ·have hl : listed.getD j false = true := ((hmem j).1 hj).resolve_left hji
      have := hmono j _ _ _ h1 (hP j hl)
      simpa [vs', hji] using this
    ·intro j hj k hk
     rw [hmem]
     rcases (hmem j).1 hj with rfl | hl
     ·exact Or.inr (hpre k hk)
     ·exact Or.inr (hC j hl k hk)
   unfold wpOp
   rw [ho]
   show if Region.wanted o (yielded ops (puts ops vs (listedL ops listed) a0).tmps) = true then _ else _
   rw [hwant]
   split at hst
   ·rename_i hw
    rw [if_pos hw]
    refine Or.inl (Oper.wp_mono ?_ (wp_frame hex (by rw [puts_size, puts_size]) Q hst))
    rintro a' w' ⟨v, rfl, hr⟩
    exact hnext v w' hr
   ·rename_i hw
    rw [if_neg hw]
    obtain ⟨v, hv, hr⟩ := hst
    have : (puts ops vs (listedL ops listed) a0).put o.dst undef = (puts ops vs (listedL ops listed) a0).put o.dst v := by
     cases hd : o.dst with
     | none => rfl
     | some d =>
      rw [hd] at hv
      by_cases hlt' : d < a0.tmps.size
      ·have h1 := put_get_eq (puts ops vs (pre ops i) a0) undef d (by rw [puts_size]; exact hlt')
       rw [hv, put_get_eq (puts ops vs (pre ops i) a0) v d (by rw [puts_size]; exact hlt')] at h1
       rw [Option.some.inj h1]
      ·have hb : ¬ d < (puts ops vs (listedL ops listed) a0).tmps.size := by rw [puts_size]; exact hlt'
       simp [Act.put, Array.setIfInBounds, hb]
    rw [this]
    exact hnext v w hr

end AnyO
end Go.Proofs.YtibelollgdnidaaGreatDoor
namespace Go.Proofs.YtibelollgdnidaaGreatDoor
open Go.RowKit
theorem List.length_filter_ne_of_nodup {i : Nat} : ∀ {l : List Nat}, l.Nodup → i ∈ l → (l.filter (fun j => j != i)).length + 1 = l.length
 | [], _, h => by cases h
 | x :: l, hn, h => by
  obtain ⟨h1, h2⟩ := List.nodup_cons.1 hn
  by_cases hx : x = i
  ·subst hx
   have : l.filter (fun j => j != x) = l := List.filter_eq_self.2 fun a ha => by
    simp only [bne_iff_ne, ne_eq]
    exact fun e => h1 (e ▸ ha)
   simp [this]
  ·have hm : i ∈ l := (List.mem_cons.1 h).resolve_left (fun e => hx e.symm)
   have := List.length_filter_ne_of_nodup h2 hm
   simp [hx, this]
namespace AnyO
variable {P : Program} {ops : Array Oper} {Q : Exit → Act → World → Prop}
def unlN (n : Nat) (listed : Array Bool) : List Nat := (List.range n).filter fun i => !listed.getD i false
theorem walkT (hok : ok ops = true) (n : Nat) (hn : n < ops.size) (hs : Region.sinkB .any ops n = true) (hc : Region.chainB .any ops n = true) (hq : Region.seqB .any ops (ops.size - n) n ((List.range ops.size).map fun i => decide (i < n)).toArray = true)
  (Post : Nat → Value → World → Prop) (hmono : ∀ i v w w', Below w.heap.size w w' → Post i v w → Post i v w') (a0 : Act) (w0 : World)
  (hstep : ∀ i, i < n → Step P ops Post a0 w0 i)
  (hfin : ∀ (vs : Nat → Value) (w : World), Below w0.heap.size w0 w → (∀ i, i < n → Post i (vs i) w) → wpList P ops Q (ops.toList.drop n) (puts ops vs (List.range n) a0) w) :
  ∀ (fuel : Nat) (listed : Array Bool) (vs : Nat → Value) (w : World), listed.size = ops.size → (unlN n listed).length = fuel → Below w0.heap.size w0 w →
   (∀ i, listed.getD i false = true → Post i (vs i) w) → (∀ i, listed.getD i false = true → ∀ j ∈ pre ops i, listed.getD j false = true) → (∀ t, n ≤ t → listed.getD t false = false) → wpAny P .any ops Q (fuel + (ops.size - n)) listed (puts ops vs (listedL ops listed) a0) w := by
 have hspec : ∀ i, i < ops.size → (∀ j ∈ pre ops i, j < i) ∧ (∀ j, j < ops.size → j ≠ i → ∀ s, dst ops i = some s → dst ops j ≠ some s) ∧
   (∀ o, ops[i]? = some o → (∀ cs b, o.op ≠ .select cs b) ∧ ∀ t ∈ o.looksAt ops, ∀ j, j < ops.size → dst ops j = some t → j ∈ pre ops i ∨ i ∈ pre ops j) := by
  intro i hi
  have h := List.all_eq_true.1 hok i (List.mem_range.2 hi)
  simp only [Bool.and_eq_true] at h
  obtain ⟨⟨h1, h2⟩, h3⟩ := h
  refine ⟨fun j hj => by simpa using List.all_eq_true.1 h1 j hj, fun j hj hne s hs hs' => ?_, fun o ho => ?_⟩
  ·have := List.all_eq_true.1 h2 j (List.mem_range.2 hj)
   rw [hs, hs'] at this
   simp [hne] at this
  ·rw [ho] at h3
   simp only [Bool.and_eq_true] at h3
   refine ⟨fun cs b e => by rw [e] at h3; simp at h3, fun t ht j hj hd => ?_⟩
   have := List.all_eq_true.1 (List.all_eq_true.1 h3.2 t ht) j (List.mem_range.2 hj)
   rw [hd] at this
   simpa using this
 have hlt : ∀ i s, dst ops i = some s → i < ops.size := fun i s h => by
  unfold dst at h
  rcases Nat.lt_or_ge i ops.size with h' | h'
  ·exact h'
  ·rw [Array.getElem?_eq_none h'] at h; cases h
 have honce : Once ops := fun i j s hi hj => by
  by_cases e : j = i
  ·exact e.symm
  ·exact absurd hj ((hspec i (hlt i s hi)).2.1 j (hlt j s hj) e s hi)
 have hready : ∀ listed : Array Bool, listed.size = ops.size → Region.ready .any ops listed = [] → ∀ i, i < ops.size → listed.getD i false = true := by
  intro listed hsz hr i
  induction i using Nat.strongRecOn with
  | ind i ih =>
   intro hi
   rcases hb : listed.getD i false with _ | _
   ·exfalso
    have hmem : i ∈ Region.ready .any ops listed := by
     rw [mem_ready]
     refine ⟨?_, ops[i], Array.getElem?_eq_getElem hi, fun e he hbi => ?_⟩
     ·rw [Array.getD_eq_getD_getElem?, Array.getElem?_eq_getElem (by omega)] at hb ⊢
      simpa using hb
     ·have hp : e.on ∈ pre ops i := by
       unfold pre
       rw [Array.getElem?_eq_getElem hi]
       exact List.mem_filterMap.2 ⟨e, by simpa using he, by simp [hbi]⟩
      have := (hspec i hi).1 _ hp
      exact ih _ this (by omega)
    rw [hr] at hmem
    cases hmem
   ·rfl
 intro fuel
 induction fuel with
 | zero =>
  intro listed vs w hsz hfu hE hP hC hT
  have hall : ∀ i, i < n → listed.getD i false = true := by
   intro i hi
   have hnil : unlN n listed = [] := List.eq_nil_of_length_eq_zero hfu
   unfold unlN at hnil
   rw [List.filter_eq_nil_iff] at hnil
   have := hnil i (List.mem_range.2 hi)
   simpa using this
  have hset : puts ops vs (listedL ops listed) a0 = puts ops vs (List.range n) a0 :=
   puts_same honce vs vs _ _ a0 (fun i => by
    unfold listedL
    rw [List.mem_filter, List.mem_range, List.mem_range]
    refine ⟨fun h => ?_, fun h => ⟨by omega, hall i h⟩⟩
    rcases Nat.lt_or_ge i n with h' | h'
    ·exact h'
    ·rw [hT i h'] at h
     cases h.2) (fun _ _ => rfl)
  have hlist : listed = ((List.range ops.size).map fun i => decide (i < n)).toArray := by
   apply Array.ext (by simp [hsz])
   intro i h1 h2
   simp only [List.getElem_toArray, List.getElem_map, List.getElem_range]
   have hg : listed.getD i false = listed[i] := by simp [h1]
   rcases Nat.lt_or_ge i n with h' | h'
   ·rw [← hg, hall i h']; simp [h']
   ·rw [← hg, hT i h']; simp; omega
  have hl : (ops.toList.drop n).length = ops.size - n := by simp
  have := wpAny_of_seq (P := P) (ops := ops) (md := .any) (Q' := Q) (ops.toList.drop n) n listed (puts ops vs (listedL ops listed) a0) w (fun j => by simp [List.getElem?_drop]) (by rw [hl, hlist]; exact hq)
   (by rw [hset]; exact hfin vs w hE fun i hi => hP i (hall i hi))
  rw [hl] at this
  rw [Nat.zero_add]
  exact this
 | succ fuel ih =>
  intro listed vs w hsz hfu hE hP hC hT
  have hsome : ∃ i, i < n ∧ listed.getD i false = false := by
   have hne : unlN n listed ≠ [] := fun h => by rw [h] at hfu; cases hfu
   obtain ⟨i, hi⟩ := List.exists_mem_of_ne_nil _ hne
   unfold unlN at hi
   rw [List.mem_filter, List.mem_range] at hi
   exact ⟨i, hi.1, by simpa using hi.2⟩
  have inv : HeadInv .any ops n listed := ⟨hsz, fun j oj hj hl e he hb => hC j hl e.on (by
    unfold pre
    rw [hj]
    exact List.mem_filterMap.2 ⟨e, by simpa using he, by simp [hb]⟩), fun t ht ht' => getD_in (by omega) (hT t ht)⟩
  have hhead : ∀ t, n ≤ t → t ∉ Region.ready .any ops listed := by
   obtain ⟨i0, hi0, hf0⟩ := hsome
   exact tail_waits hs hc hn inv _ i0 rfl hi0 (getD_in (by omega) hf0)
  rw [show fuel + 1 + (ops.size - n) = (fuel + (ops.size - n)) + 1 by omega]
  refine ⟨fun hr => ?_, fun i hi => ?_⟩
  ·exfalso
   have := hready listed hsz hr n hn
   rw [hT n (Nat.le_refl _)] at this
   cases this
  ·have hin : i < n := by
    rcases Nat.lt_or_ge i n with h | h
    ·exact h
    ·exact absurd hi (hhead i h)
   rw [mem_ready] at hi
   obtain ⟨h0, o, ho, hall⟩ := hi
   have hi' : i < ops.size := (Array.getElem?_eq_some_iff.1 ho).1
   have h0' : listed.getD i false = false := by
    rw [Array.getD_eq_getD_getElem?, Array.getElem?_eq_getElem (by omega)] at h0 ⊢
    simpa using h0
   have hpre : ∀ j ∈ pre ops i, listed.getD j false = true := by
    intro j hj
    unfold pre at hj
    rw [ho] at hj
    obtain ⟨e, he, hb⟩ := List.mem_filterMap.1 hj
    split at hb
    ·rename_i hbi
     injection hb with hb
     subst hb
     exact hall e (by simpa using he) hbi
    ·cases hb
   obtain ⟨hp1, hp2, hp3⟩ := hspec i hi'
   obtain ⟨hsel, hlook⟩ := hp3 o ho
   -- the frame that the operation sees
   have hsee : ∀ t ∈ o.looksAt ops, (puts ops vs (pre ops i) a0).tmps[t]? = (puts ops vs (listedL ops listed) a0).tmps[t]? := by
    intro t ht
    by_cases hw : ∃ j, j < ops.size ∧ dst ops j = some t
    ·obtain ⟨j, hj, hd⟩ := hw
     rcases hlook t ht j hj hd with hpj | hpi
     ·have hlj : j ∈ listedL ops listed := by
       unfold listedL
       rw [List.mem_filter, List.mem_range]
       exact ⟨hj, hpre j hpj⟩
      by_cases hts : t < a0.tmps.size
      ·rw [puts_some vs t j hd _ a0 hts hpj (fun k _ hk => honce k j t hk hd), puts_some vs t j hd _ a0 hts hlj (fun k _ hk => honce k j t hk hd)]
      ·have n1 : (puts ops vs (pre ops i) a0).tmps[t]? = none := Array.getElem?_eq_none (by rw [puts_size]; exact Nat.le_of_not_lt hts)
       have n2 : (puts ops vs (listedL ops listed) a0).tmps[t]? = none := Array.getElem?_eq_none (by rw [puts_size]; exact Nat.le_of_not_lt hts)
       rw [n1, n2]
     ·have hnl : listed.getD j false = false := by
       rcases hb : listed.getD j false with _ | _
       ·rfl
       ·exfalso
        have := hC j hb i hpi
        rw [h0'] at this
        cases this
      have h1 : ∀ k ∈ pre ops i, dst ops k ≠ some t := fun k hk e => by
       have := honce k j t e hd
       subst this
       have := (hspec k hj).1 i hpi
       have := hp1 k hk
       omega
      have h2 : ∀ k ∈ listedL ops listed, dst ops k ≠ some t := fun k hk e => by
       have := honce k j t e hd
       subst this
       unfold listedL at hk
       rw [List.mem_filter] at hk
       rw [hnl] at hk
       cases hk.2
      rw [puts_none vs t _ a0 h1, puts_none vs t _ a0 h2]
    ·have h1 : ∀ l : List Nat, ∀ k ∈ l, dst ops k ≠ some t := fun l k _ e => hw ⟨k, hlt k t e, e⟩
     rw [puts_none vs t _ a0 (h1 _), puts_none vs t _ a0 (h1 _)]
   have hex : execOp (puts ops vs (listedL ops listed) a0).eval o = execOp (puts ops vs (pre ops i) a0).eval o := by
    refine execOp_congr o hsel fun x hx => ?_
    cases x with
    | tmp t =>
     have := hsee t (List.mem_append_left _ (List.mem_filterMap.2 ⟨.tmp t, by simpa using hx, rfl⟩))
     simp [Act.eval, this]
    | _ => rfl
   have hwant : Region.wanted o (yielded ops (puts ops vs (listedL ops listed) a0).tmps) = Region.wanted o (yielded ops (puts ops vs (pre ops i) a0).tmps) := by
    unfold Region.wanted
    cases hg : o.guard with
    | none => rfl
    | some gw =>
     obtain ⟨g, want⟩ := gw
     have hy : yielded ops (puts ops vs (listedL ops listed) a0).tmps g = yielded ops (puts ops vs (pre ops i) a0).tmps g := by
      unfold yielded
      cases ht : (ops[g]?).bind (·.dst) with
      | none => rfl
      | some t =>
       have := hsee t (by simp [Oper.looksAt, hg, ht])
       simp [this]
     simp only [hy]
   have hst := hstep i hin o ho vs w hE (fun j hj => hP j (hpre j hj)) (fun a' w' => ∃ v, a' = (puts ops vs (pre ops i) a0).put o.dst v ∧ (Below w.heap.size w w' ∧ Post i v w')) (fun v w' h1 h2 => ⟨v, rfl, h1, h2⟩)
   have hdst : dst ops i = o.dst := by unfold dst; rw [ho]; rfl
   have hnext : ∀ v w', Below w.heap.size w w' ∧ Post i v w' → wpAny P .any ops Q (fuel + (ops.size - n)) (listed.setIfInBounds i true) ((puts ops vs (listedL ops listed) a0).put o.dst v) w' := by
    rintro v w' ⟨h1, h2⟩
    have hE' : Below w0.heap.size w0 w' := hE.trans (h1.mono hE.size)
    have hil : i ∉ listedL ops listed := by
     unfold listedL
     rw [List.mem_filter]
     rintro ⟨_, h⟩
     rw [h0'] at h
     cases h
    let vs' : Nat → Value := fun j => if j = i then v else vs j
    have hmem : ∀ j, (listed.setIfInBounds i true).getD j false = true ↔ (j = i ∨ listed.getD j false = true) := by
     intro j
     by_cases hji : j = i
     ·subst hji
      simp [show j < listed.size by omega]
     ·rw [getD_set_ne false (Ne.symm hji)]
      simp [hji]
    have heq : (puts ops vs (listedL ops listed) a0).put o.dst v = puts ops vs' (listedL ops (listed.setIfInBounds i true)) a0 := by
     have e1 : puts ops vs (listedL ops listed) a0 = puts ops vs' (listedL ops listed) a0 := puts_same honce vs vs' _ _ a0 (fun _ => Iff.rfl) (fun j hj => by
      have : j ≠ i := fun e => hil (e ▸ hj)
      simp [vs', this])
     have e2 : ((puts ops vs' (listedL ops listed) a0).put o.dst v) = puts ops vs' (listedL ops listed ++ [i]) a0 := by
      rw [puts_snoc, hdst]
      simp [vs']
     rw [e1, e2]
     refine puts_same honce vs' vs' _ _ a0 (fun j => ?_) (fun _ _ => rfl)
     unfold listedL
     rw [List.mem_append, List.mem_filter, List.mem_filter, hmem j, List.mem_singleton, List.mem_range]
     constructor
     ·rintro (⟨hj, hl⟩ | rfl)
      ·exact ⟨hj, Or.inr hl⟩
      ·exact ⟨hi', Or.inl rfl⟩
     ·rintro ⟨hj, rfl | hl⟩
      ·exact Or.inr rfl
      ·exact Or.inl ⟨hj, hl⟩
    rw [heq]
    refine ih _ vs' w' (by simpa using hsz) ?_ hE' ?_ ?_ (fun t ht => by rw [getD_set_ne false (by omega)]; exact hT t ht)
    ·have hun : unlN n (listed.setIfInBounds i true) = (unlN n listed).filter (fun j => j != i) := by
      unfold unlN
      rw [List.filter_filter]
      refine List.filter_congr fun j hj => ?_
      rw [Bool.eq_iff_iff]
      have hm := hmem j
      by_cases hji : j = i
      ·subst hji
       have : (listed.setIfInBounds j true).getD j false = true := hm.2 (Or.inl rfl)
       rw [this]
       simp
      ·rw [getD_set_ne false (Ne.symm hji)]
       simp [hji]
     rw [hun]
     have hnd : (unlN n listed).Nodup := List.Nodup.sublist List.filter_sublist List.nodup_range
     have hmi : i ∈ unlN n listed := by
      unfold unlN
      rw [List.mem_filter, List.mem_range, h0']
      exact ⟨hin, rfl⟩
     have := List.length_filter_ne_of_nodup hnd hmi
     omega
    ·intro j hj
     by_cases hji : j = i
     ·subst hji
      simpa [vs'] using h2
     ·have hl : listed.getD j false = true := ((hmem j).1 hj).resolve_left hji
      have := hmono j _ _ _ h1 (hP j hl)
      simpa [vs', hji] using this
    ·intro j hj k hk
     rw [hmem]
     rcases (hmem j).1 hj with rfl | hl
     ·exact Or.inr (hpre k hk)
     ·exact Or.inr (hC j hl k hk)
   unfold wpOp
   rw [ho]
   show if Region.wanted o (yielded ops (puts ops vs (listedL ops listed) a0).tmps) = true then _ else _
   rw [hwant]
   split at hst
   ·rename_i hw
    rw [if_pos hw]
    refine Or.inl (Oper.wp_mono ?_ (wp_frame hex (by rw [puts_size, puts_size]) Q hst))
    rintro a' w' ⟨v, rfl, hr⟩
    exact hnext v w' hr
   ·rename_i hw
    rw [if_neg hw]
    obtain ⟨v, hv, hr⟩ := hst
    have : (puts ops vs (listedL ops listed) a0).put o.dst undef = (puts ops vs (listedL ops listed) a0).put o.dst v := by
     cases hd : o.dst with
     | none => rfl
     | some d =>
      rw [hd] at hv
      by_cases hlt' : d < a0.tmps.size
      ·have h1 := put_get_eq (puts ops vs (pre ops i) a0) undef d (by rw [puts_size]; exact hlt')
       rw [hv, put_get_eq (puts ops vs (pre ops i) a0) v d (by rw [puts_size]; exact hlt')] at h1
       rw [Option.some.inj h1]
      ·have hb : ¬ d < (puts ops vs (listedL ops listed) a0).tmps.size := by rw [puts_size]; exact hlt'
       simp [Act.put, Array.setIfInBounds, hb]
    rw [this]
    exact hnext v w hr

theorem wp_any_tail {id : Nat} {a0 : Act} {w0 : World} (n : Nat) (hm : P.follows .mixedOrders = true) (hok : ok ops = true) (hn : decide (n < ops.size) = true) (hs : Region.sinkB .any ops n = true) (hc : Region.chainB .any ops n = true) (hq : Region.seqB .any ops (ops.size - n) n ((List.range ops.size).map fun i => decide (i < n)).toArray = true)
  (Post : Nat → Value → World → Prop) (hmono : ∀ i v w w', Below w.heap.size w w' → Post i v w → Post i v w')
  (hstep : ∀ i, i < n → Step P ops Post a0 w0.drew i)
  (hfin : ∀ (vs : Nat → Value) (w : World), Below w0.heap.size w0 w → (∀ i, i < n → Post i (vs i) w) → wpList P ops Q (ops.toList.drop n) (puts ops vs (List.range n) a0) w) :
  (Code.region id ops true).wp P Q a0 w0 := by
 have hn := of_decide_eq_true hn
 refine wp_region_any hm ?_
 have h00 : ∀ i, (Array.replicate ops.size false).getD i false = false := fun i => getD_replicate_false _ _
 have h0 : listedL ops (Array.replicate ops.size false) = [] := by
  unfold listedL
  rw [List.filter_eq_nil_iff]
  intro i hi
  rw [h00]
  simp
 have hu : (unlN n (Array.replicate ops.size false)).length = n := by
  unfold unlN
  rw [List.filter_eq_self.2 (fun i _ => by rw [h00]; rfl)]
  simp
 have := walkT (Q := Q) hok n hn hs hc hq Post hmono a0 w0.drew hstep (fun vs w hb h => hfin vs w ((Below.refl _ _).drew.trans hb) h) n (Array.replicate ops.size false) (fun _ => undef) w0.drew (by simp) hu (Below.refl _ _)
  (fun i hi => by rw [h00] at hi; cases hi) (fun i hi => by rw [h00] at hi; cases hi) (fun t _ => h00 t)
 rw [h0, show n + (ops.size - n) = ops.size by omega] at this
 exact this
end AnyO
end Go.Proofs.YtibelollgdnidaaGreatDoor
namespace Go.Proofs.YtibelollgdnidaaGreatDoor
open Go.RowKit
theorem below_alloc (w : World) (o : Obj) : Below w.heap.size w (w.alloc o) := (Below.refl _ _).alloc (Nat.le_refl _) o
theorem below_drew (w : World) : Below w.heap.size w w.drew := (Below.refl _ _).drew
theorem below_drewN (w : World) (n : Nat) : Below w.heap.size w (w.drewN n) := ⟨rfl, rfl, rfl, Nat.le_refl _, fun _ _ => rfl⟩
theorem Below.step {w w1 w2 : World} (h : Below w.heap.size w w1) (h2 : Below w1.heap.size w1 w2) : Below w.heap.size w w2 := h.trans (h2.mono h.size)
def putL : List (Option Tmp) → (Nat → Value) → Nat → Act → Act
 | [], _, _, a => a
 | d :: ds, vs, k, a => putL ds vs (k + 1) (a.put d (vs k))
theorem puts_range' {ops : Array Oper} (vs : Nat → Value) : ∀ (n k : Nat) (ds : List (Option Tmp)) (a : Act), (List.range' k n).map (AnyO.dst ops) = ds → AnyO.puts ops vs (List.range' k n) a = putL ds vs k a
 | 0, _, _, _, h => by subst h; rfl
 | n + 1, k, ds, a, h => by
  subst h
  rw [List.range'_succ, List.map_cons, AnyO.puts_cons, putL]
  exact puts_range' vs n (k + 1) _ _ rfl
theorem puts_range {ops : Array Oper} {vs : Nat → Value} {n : Nat} {a : Act} (ds : List (Option Tmp)) (h : (List.range n).map (AnyO.dst ops) = ds) : AnyO.puts ops vs (List.range n) a = putL ds vs 0 a := by
 rw [List.range_eq_range'] at *
 exact puts_range' vs n 0 ds a h
def Mono (p : Value → World → Prop) : Prop := ∀ v w w', Below w.heap.size w w' → p v w → p v w'
def isV (u : Value) : Value → World → Prop := fun v _ => v = u
theorem Mono.v (u : Value) : Mono (isV u) := fun _ _ _ _ h => h
def pstP (L : List (Value → World → Prop)) (i : Nat) (v : Value) (w : World) : Prop :=
 match L[i]? with
 | some p => p v w
 | none => True
def MonoL (L : List (Value → World → Prop)) : Prop := ∀ i v w w', Below w.heap.size w w' → pstP L i v w → pstP L i v w'
theorem MonoL.nil : MonoL [] := fun _ _ _ _ _ _ => trivial
theorem MonoL.cons {p : Value → World → Prop} {L : List (Value → World → Prop)} (h : Mono p) (hL : MonoL L) : MonoL (p :: L) := by
 intro i v w w' hb hp
 cases i with
 | zero => exact h v w w' hb hp
 | succ i => exact hL i v w w' hb hp
theorem info_of {P : Program} {e : TypeId} {c s b : Nat} (h : (P.info? e).map (fun i => (i.zero.map (·.cells.size), i.size, i.bytes)) = some (some c, s, b)) : ∃ i z, P.info? e = some i ∧ i.zero = some z ∧ i.size = s := by
 cases hq : P.info? e with
 | none => rw [hq] at h; cases h
 | some i =>
  cases hz : i.zero with
  | none => simp [hq, hz] at h
  | some z => simp [hq, hz] at h; exact ⟨i, z, rfl, hz, h.2.1⟩
end Go.Proofs.YtibelollgdnidaaGreatDoor
