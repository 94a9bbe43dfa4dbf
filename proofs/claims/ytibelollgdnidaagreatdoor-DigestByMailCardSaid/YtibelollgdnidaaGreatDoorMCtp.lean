/- digest: the head of a digest as a text. -/
import Derived.Test.YtibelollgdnidaaGreatDoorMItr
import Derived.Maps.AppendAt
namespace Go.Proofs.YtibelollgdnidaaGreatDoor
open Go.RowKit
theorem tx_app (a b : List UInt8) : tx a ++ tx b = tx (a ++ b) := mk_append a b
abbrev vDg (t : List UInt8) (n dt : Nat) (v : Value) : Value := .agg #[.string (tx t), .int .i64 1, .int .i64 (n : Int), .int .i64 (dt : Int), v]
set_option maxRecDepth 100000 in
theorem head41 (t : List UInt8) (n dt : Nat) (v : Value) (w : World) (hn : n ≤ 9) (ht : t.length ≤ 1000) : Calls Tryz.prog 41 #[vDg t n dt v] w fun e w' => e = .returned (.string (tx (hdL t n))) ∧ Below w.heap.size w w' := by
 have hI1 : ∀ (u : World), Calls Tryz.prog 58 #[.int .i64 1] u fun e w' => e = .returned (.string (tx [dg 1])) ∧ w' = u := by
  intro u
  have := Tryz.strconv_Itoa_small 1 (by omega) u
  rw [dec_dg (by omega)] at this
  exact this
 have hIn : ∀ (u : World), Calls Tryz.prog 58 #[.int .i64 (n : Int)] u fun e w' => e = .returned (.string (tx [dg n])) ∧ w' = u := by
  intro u
  have := Tryz.strconv_Itoa_small n (by omega) u
  rw [dec_dg hn] at this
  exact this
 have he : tx t ++ (⟨#[32, 68, 105, 103, 101, 115, 116, 44, 32, 86, 111, 108, 117, 109, 101, 32]⟩ : ByteArray) ++ tx [dg 1] ++ (⟨#[44, 32, 73, 115, 115, 117, 101, 32]⟩ : ByteArray) ++ tx [dg n] = tx (hdL t n) := by
  rw [show (⟨#[32, 68, 105, 103, 101, 115, 116, 44, 32, 86, 111, 108, 117, 109, 101, 32]⟩ : ByteArray) = tx wA from rfl, show (⟨#[44, 32, 73, 115, 115, 117, 101, 32]⟩ : ByteArray) = tx wB from rfl, tx_app, tx_app, tx_app, tx_app]
  rfl
 obtain ⟨k, hk⟩ : ∃ k, t.length = k := ⟨_, rfl⟩
 have hz0 : (tx t).size = k := by rw [tx_size]; exact hk
 rw [hk] at ht
 have g0 : ¬ 9223372036854775807 < k + 16 := by omega
 have g1 : ¬ 9223372036854775807 < k + 17 := by omega
 have g2 : ¬ 9223372036854775807 < k + 25 := by omega
 have g3 : ¬ 9223372036854775807 < k + 16 + 1 := by omega
 have g4 : ¬ 9223372036854775807 < k + 16 + 1 + 8 := by omega
 have g5 : ¬ 9223372036854775807 < k + 16 + 1 + 8 + 1 := by omega
 have g6 : ¬ 9223372036854775807 < k + 26 := by omega
 have hz1 : (tx [dg 1]).size = 1 := rfl
 have hz2 : (tx [dg n]).size = 1 := rfl
 obtain ⟨y, hy⟩ : ∃ y, tx [dg 1] = y := ⟨_, rfl⟩
 obtain ⟨z, hz⟩ : ∃ z, tx [dg n] = z := ⟨_, rfl⟩
 rw [hy] at hI1 he hz1
 rw [hz] at hIn he hz2
 have H1 := fun u => Lib.hid (hI1 u)
 have Hn := fun u => Lib.hid (hIn u)
 have HB := Lib.hid (below_alloc w (.cells #[.string (tx t), .int .i64 1, .int .i64 (n : Int), .int .i64 (dt : Int), v] 39))
 have HE := Lib.hid he
 clear hI1 hIn he hn ht hy hz hk
 obtain ⟨x, hx⟩ : ∃ x, tx t = x := ⟨_, rfl⟩
 rw [hx] at HB HE hz0
 unfold vDg
 rw [hx]
 clear hx
 go_enter Tryz.func41, Tryz.ntmps41
 go_wp2
 go_quiet (first
  | (go_at_call 58; exact Calls.quiet_of_same (H1 _).out)
  | (go_at_call 58; exact Calls.quiet_of_same (Hn _).out))
 go_wp2
 go_ret
 exact ⟨congrArg (fun s => Ending.returned (.string s)) HE.out, Below.step HB.out (below_drewN _ _)⟩
open Go.RowKit Go.MapKept
/-! plain -/
def ordS (ss : List (List UInt8)) : List (List UInt8) := ss.foldl (fun a s => if s ∈ a then a else a ++ [s]) []
theorem ordS_snoc (ss : List (List UInt8)) (s : List UInt8) : ordS (ss ++ [s]) = if s ∈ ordS ss then ordS ss else ordS ss ++ [s] := by
 unfold ordS
 rw [List.foldl_append]
 rfl
def numS (ss : List (List UInt8)) (s : List UInt8) : List (List UInt8) := (ss.zipIdx.filter (fun p => decide (p.1 = s))).map (fun p => [dg (p.2 + 1)])
theorem numS_snoc (ss : List (List UInt8)) (t s : List UInt8) : numS (ss ++ [t]) s = if t = s then numS ss s ++ [[dg (ss.length + 1)]] else numS ss s := by
 unfold numS
 rw [List.zipIdx_append, List.filter_append, List.map_append]
 by_cases h : t = s
 ·subst h
  rw [if_pos rfl]
  simp
 ·rw [if_neg h]
  simp [h]
theorem mem_ordS {ss : List (List UInt8)} {s : List UInt8} : s ∈ ordS ss ↔ s ∈ ss := by
 suffices ∀ (n : Nat) (ss : List (List UInt8)), ss.length = n → (s ∈ ordS ss ↔ s ∈ ss) from this _ ss rfl
 intro n
 induction n with
 | zero =>
  intro ss h
  rw [List.length_eq_zero_iff.1 h]
  exact Iff.rfl
 | succ n ih =>
  intro ss h
  obtain ⟨t, x, rfl⟩ : ∃ t x, ss = t ++ [x] := ⟨ss.dropLast, ss.getLast (by intro e; rw [e] at h; cases h), (List.dropLast_concat_getLast _).symm⟩
  have hl : t.length = n := by rw [List.length_append] at h; simpa using h
  rw [ordS_snoc]
  have := ih t hl
  split
  ·rename_i hx
   rw [this, List.mem_append, List.mem_singleton]
   constructor
   ·exact Or.inl
   ·rintro (h1 | rfl)
    ·exact h1
    ·exact this.1 hx
  ·rw [List.mem_append, List.mem_append, this]
theorem ordS_len (ss : List (List UInt8)) : (ordS ss).length ≤ ss.length := by
 suffices ∀ (n : Nat) (ss : List (List UInt8)), ss.length = n → (ordS ss).length ≤ ss.length from this _ ss rfl
 intro n
 induction n with
 | zero =>
  intro ss h
  rw [List.length_eq_zero_iff.1 h]
  exact Nat.le_refl _
 | succ n ih =>
  intro ss h
  obtain ⟨t, x, rfl⟩ : ∃ t x, ss = t ++ [x] := ⟨ss.dropLast, ss.getLast (by intro e; rw [e] at h; cases h), (List.dropLast_concat_getLast _).symm⟩
  have hl : t.length = n := by rw [List.length_append] at h; simpa using h
  have := ih t hl
  rw [ordS_snoc]
  split
  ·rw [List.length_append]; omega
  ·rw [List.length_append, List.length_append]
   simpa using this
theorem numS_len (ss : List (List UInt8)) (s : List UInt8) : (numS ss s).length ≤ ss.length := by
 unfold numS
 rw [List.length_map]
 refine Nat.le_trans (List.length_filter_le _ _) ?_
 rw [List.length_zipIdx]
 exact Nat.le_refl _
theorem joinTail_le (sep : List UInt8) : ∀ r : List (List UInt8), (∀ x ∈ r, x.length ≤ 1) → (Lib.joinTail sep r).length ≤ r.length * (sep.length + 1)
 | [], _ => by simp [Lib.joinTail]
 | x :: r, h => by
  have ih := joinTail_le sep r (fun y hy => h y (List.mem_cons_of_mem _ hy))
  have hx := h x List.mem_cons_self
  unfold Lib.joinTail at ih ⊢
  rw [List.map_cons, List.flatten_cons, List.length_append, List.length_append, List.length_cons, Nat.succ_mul]
  omega
theorem join_le (xs : List (List UInt8)) (sep : List UInt8) (h : ∀ x ∈ xs, x.length ≤ 1) : (Lib.join xs sep).length ≤ xs.length * (sep.length + 1) := by
 cases xs with
 | nil => simp [Lib.join]
 | cons x r =>
  have := joinTail_le sep r (fun y hy => h y (List.mem_cons_of_mem _ hy))
  have hx := h x List.mem_cons_self
  rw [Lib.join_cons, List.length_append, List.length_cons, Nat.succ_mul]
  omega
theorem numS_join (ss : List (List UInt8)) (s : List UInt8) : (Lib.join (numS ss s) [44, 32]).length ≤ (numS ss s).length * 3 := by
 refine join_le _ _ fun x hx => ?_
 unfold numS at hx
 obtain ⟨p, _, rfl⟩ := List.mem_map.1 hx
 exact Nat.le_refl _
def noS : List UInt8 := [40, 110, 111, 32, 115, 117, 98, 106, 101, 99, 116, 41]
def ctT (ss : List (List UInt8)) (s : List UInt8) : List UInt8 := (if s = [] then noS else s) ++ ([32, 40] ++ Lib.join (numS ss s) [44, 32] ++ [41])
def ctS (ss : List (List UInt8)) : List (List UInt8) := (ordS ss).map (ctT ss)
/-! appending, and where the slice then lies -/
section
variable {P : Program} (w : World)
theorem wp_append_sl_at {α : Type} {o : Oper} {a : Act} {K : Act → World → Prop} {Q : Exit → Act → World → Prop} (sx x : Operand) (t : TypeId)
  (ho : o.op = .call { callee := .builtin .append, args := #[sx, x], argTypes := #[t, t] })
  (base : Nat) (e : TypeId) (s bytes : Nat) (enc : α → List Value) (ht : P.underlying t = some (.slice e)) (hi : (P.info? e).map (fun i => (i.zero.map (·.cells.size), i.size, i.bytes)) = some (some s, s, bytes)) (hsz : 0 < s)
  (hs : ∀ x, (enc x).length = s) (h1 : ∀ x, ∀ u ∈ enc x, u.oneCell' = true)
  (v : Value) (xs : List α) (hv : a.eval sx = v) (hown : Own w base e s enc v xs)
  (A : Option Addr) (m c : Nat) (ys : List α) (hm : ys.length = m) (hys : ys ≠ []) (hx : a.eval x = .slice A m c) (hsl : Sl w enc A ys)
  (hlen : (xs.length + m) * bytes ≤ 140737488355328) (hl2 : xs.length + m ≤ 9223372036854775807) (hbase : base ≤ w.heap.size)
  (h : ∀ v' w', Own w' base e s enc v' (xs ++ ys) → w.grownBy w' v.ownBlock → (v'.ownBlock = v.ownBlock ∨ v'.ownBlock = some w.heap.size) → K (a.put o.dst v') w') : o.wp P a w K Q := by
 subst hm
 cases hq : P.info? e with
 | none => rw [hq] at hi; cases hi
 | some i =>
  simp only [hq, Option.map_some, Option.some.injEq, Prod.mk.injEq] at hi
  obtain ⟨hz, hsi, hby⟩ := hi
  cases hz0 : i.zero with
  | none => rw [hz0] at hz; cases hz
  | some z =>
   simp only [hz0, Option.map_some, Option.some.injEq] at hz
   have hones : ∀ u ∈ ys.flatMap enc, u.oneCell' = true := by
    intro u hu
    obtain ⟨y, _, hy⟩ := List.mem_flatMap.1 hu
    exact h1 y u hy
   obtain ⟨ad, rfl, hat⟩ := hsl hys
   obtain ⟨v', w', hr, h2, h3, _, h5⟩ := run_append_own_at (P := P) w base t o.type e i z s bytes ht hq hz0 hsi hby hz hsz v xs.length (xs.flatMap enc) hown ad ys.length c (ys.flatMap enc) (flatMap_length enc s hs ys) hat.2 hones (by unfold maxLen; omega) hlen hbase
   unfold Oper.wp execOp
   simp only [ho, resolve, invoke, builtin, Sem.run_bind, Sem.run_pure, Result.andThen_ok, List.map_toArray, List.map_cons, List.map_nil, hv, hx, hr]
   refine h v' w' ?_ h3 h5
   unfold Own
   rw [List.length_append, List.flatMap_append]
   exact h2
theorem wpList_append_sl_at {α : Type} {ops : Array Oper} {rest : List Oper} {o : Oper} {a : Act} {Q : Exit → Act → World → Prop} (hgd : o.guard = none) (sx x : Operand) (t : TypeId)
  (ho : o.op = .call { callee := .builtin .append, args := #[sx, x], argTypes := #[t, t] })
  (base : Nat) (e : TypeId) (s bytes : Nat) (enc : α → List Value) (ht : P.underlying t = some (.slice e)) (hi : (P.info? e).map (fun i => (i.zero.map (·.cells.size), i.size, i.bytes)) = some (some s, s, bytes)) (hsz : 0 < s)
  (hs : ∀ x, (enc x).length = s) (h1 : ∀ x, ∀ u ∈ enc x, u.oneCell' = true)
  (v : Value) (xs : List α) (hv : a.eval sx = v) (hown : Own w base e s enc v xs)
  (A : Option Addr) (m c : Nat) (ys : List α) (hm : ys.length = m) (hys : ys ≠ []) (hx : a.eval x = .slice A m c) (hsl : Sl w enc A ys)
  (hlen : (xs.length + m) * bytes ≤ 140737488355328) (hl2 : xs.length + m ≤ 9223372036854775807) (hbase : base ≤ w.heap.size)
  (h : ∀ v' w', Own w' base e s enc v' (xs ++ ys) → w.grownBy w' v.ownBlock → (v'.ownBlock = v.ownBlock ∨ v'.ownBlock = some w.heap.size) → wpList P ops Q rest (a.put o.dst v') w') : wpList P ops Q (o :: rest) a w :=
 wpList_plain hgd fun _ hK => wp_append_sl_at w sx x t ho base e s bytes enc ht hi hsz hs h1 v xs hv hown A m c ys hm hys hx hsl hlen hl2 hbase fun v' w' h2 h3 h4 => hK _ _ (h v' w' h2 h3 h4)
end
theorem Own.same {w w' : World} {α : Type} {base : Nat} {e : TypeId} {n : Nat} {enc : α → List Value} {v : Value} {xs : List α} (h : Own w base e n enc v xs) (hb : ∀ k, v.ownBlock = some k → w'.heap[k]? = w.heap[k]?) : Own w' base e n enc v xs := by
 refine ⟨h.1, h.2.imp id fun ⟨g', cap, cur, a1, a2, a3, r⟩ => ⟨g', cap, cur, a1, a2, ?_, r⟩⟩
 rw [hb g' (by rw [a1]; rfl)]
 exact a3
theorem Own.cells_ {w : World} {α : Type} {base : Nat} {e : TypeId} {n : Nat} {enc : α → List Value} {v : Value} {xs : List α} (h : Own w base e n enc v xs) {k : Nat} (hk : v.ownBlock = some k) : ∃ cur, w.heap[k]? = some (.cells cur e (0, 0)) := by
 rcases h.2 with ⟨rfl, _⟩ | ⟨g', cap, cur, a1, a2, a3, r⟩
 ·cases hk
 ·rw [a1] at hk
  obtain rfl : g' = k := by simpa [Value.ownBlock] using hk
  exact ⟨cur, a3⟩
/-! a key of a map that is stored anew -/
theorem sameBits_str (s : ByteArray) : Instr.sameBits 10000 (.string s) (.string s) = true := by
 show Instr.sameBits (9999 + 1) _ _ = true
 simp [Instr.sameBits, bbeq]
theorem findNow_mod (k : ByteArray) (x : Value) : ∀ (l : List MapEntry) (i q : Nat) (u : Value), Instr.findNow .string (.string k) l i = some (some (q, u)) →
  ∃ j e, q = i + j ∧ l[j]? = some e ∧ e.key = .string k ∧ ∀ v y, Instr.findNow .string (.string v) l i = some y → ∃ y', Instr.findNow .string (.string v) (l.modify j (fun e => { e with key := .string k, val := x })) i = some y' ∧ y'.map (·.2) = if v = k then some x else y.map (·.2)
 | [], i, q, u, h => by cases h
 | e :: r, i, q, u, h => by
  have hk : ∃ t, e.key = .string t := by
   unfold Instr.findNow at h
   cases hkey : e.key <;> simp [hkey, Instr.sameNow] at h ⊢
  obtain ⟨t, ht⟩ := hk
  have hs : ∀ a : ByteArray, Instr.sameNow .string (.string a) e.key = some (decide (a = t)) := by
   intro a
   rw [ht]
   show some (a == t) = _
   rw [bbeq]
  unfold Instr.findNow at h
  rw [hs] at h
  by_cases hkt : k = t
  ·subst hkt
   rw [decide_eq_true rfl] at h
   injection h with h
   injection h with h
   injection h with h1 h2
   refine ⟨0, e, by omega, rfl, ht, fun v y hy => ?_⟩
   rw [List.modify_zero_cons]
   unfold Instr.findNow at hy ⊢
   rw [hs] at hy
   have h3 : Instr.sameNow .string (.string v) (.string k) = some (decide (v = k)) := by show some (v == k) = _; rw [bbeq]
   show ∃ y', (match Instr.sameNow .string (.string v) (.string k) with | some true => some (some (i, x)) | some false => Instr.findNow .string (.string v) r (i + 1) | none => none) = some y' ∧ _
   rw [h3]
   by_cases hv : v = k
   ·rw [decide_eq_true hv, if_pos hv]
    exact ⟨_, rfl, rfl⟩
   ·rw [decide_eq_false hv] at hy ⊢
    rw [if_neg hv]
    exact ⟨y, hy, rfl⟩
  ·rw [decide_eq_false hkt] at h
   obtain ⟨j, e', hj, hl, hke, hall⟩ := findNow_mod k x r (i + 1) q u h
   refine ⟨j + 1, e', by omega, by simpa using hl, hke, fun v y hy => ?_⟩
   rw [List.modify_succ_cons]
   unfold Instr.findNow at hy ⊢
   rw [hs] at hy ⊢
   by_cases hv : v = t
   ·rw [decide_eq_true hv] at hy ⊢
    refine ⟨some (i, e.val), rfl, ?_⟩
    rw [if_neg (by rw [hv]; exact fun e => hkt e.symm)]
    injection hy with hy
    rw [← hy]
   ·rw [decide_eq_false hv] at hy ⊢
    exact hall v y hy
theorem SM.same {w w' : World} {r : Nat} {f : ByteArray → Option Value} (h : SM w r f) (hb : w'.heap[r]? = w.heap[r]?) : SM w' r f := by
 obtain ⟨es, c, h1, h2⟩ := h
 exact ⟨es, c, by rw [hb]; exact h1, h2⟩
theorem SM.upd {w : World} {r : Nat} {f : ByteArray → Option Value} (h : SM w r f) {t e : TypeId} (ht : Tryz.prog.underlying t = some (.map 9 e)) (n : ByteArray) (x : Value) :
  ∃ w', (Instr.mapUpdate t (.map (some r)) (.string n) x).run Tryz.prog w = .ok () w' ∧ SM w' r (fun v => if v = n then some x else f v) ∧ One r w w' := by
 cases hn : f n with
 | none => exact h.put ht n hn x
 | some x0 =>
  obtain ⟨es, c, h1, h2⟩ := h
  obtain ⟨y, hy, hyf⟩ := h2 n
  rw [hn] at hyf
  cases y with
  | none => cases hyf
  | some z =>
   obtain ⟨j, e0, hj, hl, hke, hall⟩ := findNow_mod n x es.toList 0 z.1 z.2 hy
   have hk : IsKey .string (.string n) := trivial
   have hje : z.1 = j := by omega
   have hl2 : es[j]? = some e0 := by simpa using hl
   refine ⟨{ w with heap := w.heap.setIfInBounds r (.map (es.modify j (fun e => { e with key := .string n, val := x })) c) }, ?_, ⟨_, _, (heap_set h1).1, fun v => ?_⟩, ⟨rfl, rfl, rfl, by simp, fun k hk hne => (heap_set h1).2 k hne⟩⟩
   ·simp [Instr.mapUpdate, run_underlying ht, Go.MapKept.run_getObj_map h1, Go.MapKept.run_checkKey under_str hk, Go.MapKept.run_findKey under_str hy, Go.MapKept.run_setObj_map _ h1, Result.andThen, hje, hl2, hke, Instr.keyThatStays, sameBits_str]
   ·rw [Array.toList_modify]
    obtain ⟨y, hy, hyf⟩ := h2 v
    obtain ⟨y', h3, h4⟩ := hall v y hy
    exact ⟨y', h3, by rw [h4, hyf]⟩
def fv (f : ByteArray → Option Value) (s : ByteArray) : Value := (f s).getD (.slice none 0 0)
def updF {β : Type} (f : ByteArray → β) (s : ByteArray) (x : β) : ByteArray → β := fun v => if v = s then x else f v
theorem updF_self {β : Type} (f : ByteArray → β) (s : ByteArray) (x : β) : updF f s x s = x := if_pos rfl
theorem updF_other {β : Type} (f : ByteArray → β) {s t : ByteArray} (x : β) (h : t ≠ s) : updF f s x t = f t := if_neg h
structure CtI (B r : Nat) (w0 : World) (f : ByteArray → Option Value) (v3 : Value) (L3 : List ByteArray) (g : ByteArray → List ByteArray) (w : World) : Prop where
 bel : Below B w0 w
 le : B ≤ w.heap.size
 rB : B ≤ r
 map : SM w r f
 sub : Own w B 9 1 cS v3 L3
 own : ∀ s, Own w B 9 1 cS (fv f s) (g s)
 apt : ∀ s s', s ≠ s' → ∀ k, (fv f s).ownBlock = some k → (fv f s').ownBlock ≠ some k
 ap3 : ∀ s k, v3.ownBlock = some k → (fv f s).ownBlock ≠ some k
section
variable {B r : Nat} {w0 w w' : World} {f : ByteArray → Option Value} {v3 : Value} {L3 : List ByteArray} {g : ByteArray → List ByteArray}
theorem CtI.ne (h : CtI B r w0 f v3 L3 g w) {v : Value} {l : List ByteArray} (ho : Own w B 9 1 cS v l) : v.ownBlock ≠ some r := by
 intro e
 obtain ⟨cur, hc⟩ := ho.cells_ e
 obtain ⟨es, c, h1, -⟩ := h.map
 rw [h1] at hc
 cases hc
theorem CtI.keep (h : CtI B r w0 f v3 L3 g w) (hb : Below w.heap.size w w') : CtI B r w0 f v3 L3 g w' :=
 ⟨h.bel.trans (hb.mono h.le), Nat.le_trans h.le hb.size, h.rB, h.map.keep hb, h.sub.keep hb, fun s => (h.own s).keep hb, h.apt, h.ap3⟩
theorem CtI.subs (h : CtI B r w0 f v3 L3 g w) {v3' : Value} {L3' : List ByteArray} (ho : Own w' B 9 1 cS v3' L3') (hg : w.grownBy w' v3.ownBlock) (hat : v3'.ownBlock = v3.ownBlock ∨ v3'.ownBlock = some w.heap.size) : CtI B r w0 f v3' L3' g w' :=
 ⟨h.sub.grew hg h.bel (Nat.le_refl _) h.le, Nat.le_trans h.le hg.size, h.rB, h.map.same (hg.block r h.map.lt (fun e => h.ne h.sub e.symm)), ho,
  fun s => (h.own s).same (fun k hk => hg.block k ((h.own s).lt k hk).2 (fun e => h.ap3 s k e.symm hk)), h.apt, fun s k hk => by
   rcases hat with e | e
   ·exact h.ap3 s k (e ▸ hk)
   ·rw [e] at hk
    injection hk with hk
    intro e2
    have := ((h.own s).lt k e2).2
    omega⟩
theorem fv_upd (f : ByteArray → Option Value) (s : ByteArray) (x : Value) (t : ByteArray) : fv (fun v => if v = s then some x else f v) t = if t = s then x else fv f t := by
 unfold fv
 show (if t = s then some x else f t).getD _ = _
 by_cases h : t = s
 ·rw [if_pos h, if_pos h]; rfl
 ·rw [if_neg h, if_neg h]
theorem CtI.nums (h : CtI B r w0 f v3 L3 g w) (s : ByteArray) {v' : Value} {l' : List ByteArray} {w2 : World} (ho : Own w' B 9 1 cS v' l') (hg : w.grownBy w' (fv f s).ownBlock) (hat : v'.ownBlock = (fv f s).ownBlock ∨ ∃ k, v'.ownBlock = some k ∧ w.heap.size ≤ k)
  (hm : SM w2 r (fun v => if v = s then some v' else f v)) (h2 : One r w' w2) : CtI B r w0 (fun v => if v = s then some v' else f v) v3 L3 (updF g s l') w2 := by
 have hle : B ≤ w'.heap.size := Nat.le_trans h.le hg.size
 have hb1 : Below B w0 w' := (h.own s).grew hg h.bel (Nat.le_refl _) h.le
 have hne : v'.ownBlock ≠ some r := by
  intro e
  rcases hat with e2 | ⟨k, e2, hk⟩
  ·exact h.ne (h.own s) (e2 ▸ e)
  ·rw [e2] at e
   injection e with e
   have := h.map.lt
   omega
 have hsame : ∀ k, k < w.heap.size → (fv f s).ownBlock ≠ some k → k ≠ r → w2.heap[k]? = w.heap[k]? := fun k hk h1 h3 => (h2.out k (Nat.lt_of_lt_of_le hk hg.size) h3).trans (hg.block k hk (fun e => h1 e.symm))
 refine ⟨hb1.trans (h2.below h.rB hle), Nat.le_trans hle h2.size, h.rB, hm, h.sub.same (fun k hk => hsame k (h.sub.lt k hk).2 (h.ap3 s k hk) (fun e => h.ne h.sub (e ▸ hk))), fun t => ?_, fun t t' htt k hk => ?_, fun t k hk => ?_⟩
 ·rw [fv_upd]
  by_cases ht : t = s
  ·subst ht
   rw [if_pos rfl, updF_self]
   exact ho.same (fun k hk => h2.out k (ho.lt k hk).2 (fun e => hne (e ▸ hk)))
  ·rw [if_neg ht, updF_other _ _ ht]
   exact (h.own t).same (fun k hk => hsame k ((h.own t).lt k hk).2 (h.apt t s ht k hk) (fun e => h.ne (h.own t) (e ▸ hk)))
 ·have key : ∀ t, t ≠ s → ∀ k, (fv f t).ownBlock = some k → v'.ownBlock ≠ some k := by
   intro t ht k hk e
   rcases hat with e2 | ⟨m, e2, hm2⟩
   ·exact h.apt t s ht k hk (e2 ▸ e)
   ·rw [e2] at e
    injection e with e
    have := ((h.own t).lt k hk).2
    omega
  rw [fv_upd] at hk ⊢
  by_cases ht : t = s
  ·rw [if_pos ht] at hk
   rw [if_neg (by rw [← ht]; exact fun e => htt e.symm)]
   exact fun e => key t' (by rw [← ht]; exact fun e => htt e.symm) k e hk
  ·rw [if_neg ht] at hk
   by_cases ht' : t' = s
   ·rw [if_pos ht']
    exact key t ht k hk
   ·rw [if_neg ht']
    exact h.apt t t' htt k hk
 ·rw [fv_upd]
  by_cases ht : t = s
  ·rw [if_pos ht]
   intro e
   rcases hat with e2 | ⟨m, e2, hm2⟩
   ·exact h.ap3 s k hk (e2 ▸ e)
   ·rw [e2] at e
    injection e with e
    have := (h.sub.lt k hk).2
    omega
  ·rw [if_neg ht]
   exact h.ap3 t k hk
end
theorem Sl.it {w : World} {A : Option Addr} {xs : List It} (h : Sl w cIt A xs) {k : Nat} (hk : k < xs.length) : ∃ ad, A = some ad ∧ okA w (ad.add (k * 36)) 36 = true ∧ rdA w (ad.add (k * 36)) 36 = vIt xs[k] := by
 obtain ⟨ad, rfl, hat⟩ := Sl.at_ cIt_length h hk
 have h1 := hat.ok
 have h2 := hat.rd
 rw [cIt_length] at h1 h2
 exact ⟨ad, rfl, h1, h2⟩
theorem underMs : Tryz.prog.underlying 123 = some (.map 9 29) := by kernel_rfl
end Go.Proofs.YtibelollgdnidaaGreatDoor
