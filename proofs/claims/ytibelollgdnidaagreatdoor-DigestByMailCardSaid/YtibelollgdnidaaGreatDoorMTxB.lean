/- strings.Builder at this translation: copyCheck, Len, WriteByte, WriteString, String; with what else stays. command.Unstuff. -/
import Derived.Test.YtibelollgdnidaaGreatDoorMRow
import Derived.Laws.Externs
import Derived.Lib.AppendStr
import Derived.Lib.UnsafeStr
import Derived.Maps.AppendAt
namespace Go.Proofs.YtibelollgdnidaaGreatDoor
section
open Go.RowKit
theorem liesBd : liesAt Tryz.prog Tryz.prog.depth 93 (2 / Tryz.prog.cellsOf 93) 0 93 1 = true := by kernel_rfl
theorem sizeBd : (Tryz.prog.info? 93).map (·.size) = some 2 := by kernel_rfl
theorem infoBy : (Tryz.prog.info? 5).map (fun i => (i.zero, i.size, i.bytes)) = some (some (.int .u8 0), 1, 1) := by kernel_rfl
section
variable {P : Program} (w : World)
theorem append_string_at (base : Nat) (t u ty e : TypeId) (i : TypeInfo) (ht : P.underlying t = some (.slice e)) (hu : P.underlying u = some .string) (hi : P.info? e = some i) (hz : i.zero = some (.int .u8 0)) (hsize : i.size = 1) (hby : i.bytes = 1)
  (v : Value) (n : Nat) (xs : List Value) (hown : w.ownsRow base e 1 v n xs) (s : ByteArray) (h63 : n + s.size ≤ 1000000000) {v' : Value} {w' : World} (hr : (Builtin.append_ #[t, u] ty #[v, .string s]).run P w = .ok v' w') (hnil : v' = .slice none 0 0 ↔ v = .slice none 0 0 ∧ s.size = 0) : v'.ownBlock = v.ownBlock ∨ v'.ownBlock = some w.heap.size := by
 rcases hown.2 with ⟨rfl, rfl⟩ | ⟨g, cap, cur, rfl, hbg, hg, hnc, hcm, hcs, htake⟩
 ·by_cases hm : s.size = 0
  ·left
   rw [hnil.2 ⟨rfl, hm⟩]
  ·right
   have h2 := run_append_nil_string (P := P) w t u ty e i (.int .u8 0) ht hu hi hz s (by omega) (by omega) (by rw [hby]; omega)
   rw [hr] at h2
   injection h2 with h2 _
   rw [h2]
   rfl
 ·have hxl : xs.length = n := by simpa using hown.1
  by_cases hroom : n + s.size ≤ cap
  ·left
   have hcs' : cur.size = cap := by simpa using hcs
   have h2 := Lib.run_append_room_string (P := P) w t u ty e i ht hu hi hsize g n cap cur hg s hroom (by omega)
   rw [hr] at h2
   injection h2 with h2 _
   rw [h2]
   rfl
  ·right
   have holds : ∀ j u, xs[j]? = some u → w.cell? ((⟨g, 0, none⟩ : Addr).add j) = some u := hown.cells (g := g) rfl
   have h2 := Lib.run_append_grow_string (P := P) w t u ty e i (.int .u8 0) ht hu hi hz ⟨g, 0, none⟩ n cap xs (by rw [hsize]; simpa using hxl) holds s (by omega) (by omega) (by rw [hby]; exact growslice_fits (by omega) (by omega))
   rw [hr] at h2
   injection h2 with h2 _
   rw [h2]
   rfl
theorem wpList_append_str_at {ops : Array Oper} {rest : List Oper} {o : Oper} {a : Act} {Q : Exit → Act → World → Prop} (hgd : o.guard = none) (sl x : Operand) (t u : TypeId)
  (ho : o.op = .call { callee := .builtin .append, args := #[sl, x], argTypes := #[t, u] })
  (base : Nat) (e : TypeId) (ht : P.underlying t = some (.slice e)) (hu : P.underlying u = some .string) (hi : (P.info? e).map (fun i => (i.zero, i.size, i.bytes)) = some (some (.int .u8 0), 1, 1))
  (v : Value) (n : Nat) (xs : List Value) (hs : a.eval sl = v) (hown : w.ownsRow base e 1 v n xs) (s : ByteArray) (hx : a.eval x = .string s) (h63 : n + s.size ≤ 1000000000) (hbase : base ≤ w.heap.size)
  (h : ∀ v' w', w'.ownsRow base e 1 v' (n + s.size) (xs ++ Lib.strCells s) → w.grownBy w' v.ownBlock → (v'.ownBlock = v.ownBlock ∨ v'.ownBlock = some w.heap.size) → wpList P ops Q rest (a.put o.dst v') w') : wpList P ops Q (o :: rest) a w := by
 refine wpList_plain hgd fun K hK => ?_
 cases hq : P.info? e with
 | none => rw [hq] at hi; cases hi
 | some i =>
  simp only [hq, Option.map_some, Option.some.injEq, Prod.mk.injEq] at hi
  obtain ⟨hz, hsize, hby⟩ := hi
  obtain ⟨v', w', hr, h2, h3, h4⟩ := Lib.run_append_own_string (P := P) w base t u o.type e i ht hu hq hz hsize hby v n xs hown s (by unfold maxLen; omega) (by omega) hbase
  unfold Oper.wp execOp
  simp only [ho, resolve, invoke, builtin, Sem.run_bind, Sem.run_pure, Result.andThen_ok, List.map_toArray, List.map_cons, List.map_nil, hs, hx, hr]
  exact hK _ _ (h v' w' h2 h3 (append_string_at (P := P) w base t u o.type e i ht hu hq hz hsize hby v n xs hown s h63 hr h4))
theorem wpList_append_byte_at {ops : Array Oper} {rest : List Oper} {o : Oper} {a : Act} {Q : Exit → Act → World → Prop} (hgd : o.guard = none) (sl x : Operand) (t : TypeId)
  (ho : o.op = .call { callee := .builtin .append, args := #[sl, x], argTypes := #[t, t] })
  (base : Nat) (e : TypeId) (ht : P.underlying t = some (.slice e)) (hi : (P.info? e).map (fun i => (i.zero, i.size, i.bytes)) = some (some (.int .u8 0), 1, 1))
  (v : Value) (n : Nat) (xs : List Value) (hs : a.eval sl = v) (hown : w.ownsRow base e 1 v n xs) (ad : Addr) (cc : Int) (hx : a.eval x = .slice (some ad) 1 1) (hc : w.cell? ad = some (.int .u8 cc)) (h63 : n + 1 ≤ 1000000000) (hbase : base ≤ w.heap.size)
  (h : ∀ v' w', w'.ownsRow base e 1 v' (n + 1) (xs ++ [.int .u8 cc]) → w.grownBy w' v.ownBlock → (v'.ownBlock = v.ownBlock ∨ v'.ownBlock = some w.heap.size) → wpList P ops Q rest (a.put o.dst v') w') : wpList P ops Q (o :: rest) a w := by
 refine wpList_plain hgd fun K hK => ?_
 cases hq : P.info? e with
 | none => rw [hq] at hi; cases hi
 | some i =>
  simp only [hq, Option.map_some, Option.some.injEq, Prod.mk.injEq] at hi
  obtain ⟨hz, hsize, hby⟩ := hi
  obtain ⟨v', w', hr, h2, h3, _, h5⟩ := run_append_own_at (P := P) w base t o.type e i (.int .u8 0) 1 1 ht hq hz hsize hby rfl (by decide) v n xs hown ad 1 1 [.int .u8 cc] rfl (by
   intro j u hj
   match j, hj with
   | 0, hj => simp at hj; subst hj; simpa [Addr.add] using hc) (by intro u hu; simp at hu; subst hu; rfl) (by unfold maxLen; omega) (by omega) hbase
  unfold Oper.wp execOp
  simp only [ho, resolve, invoke, builtin, Sem.run_bind, Sem.run_pure, Result.andThen_ok, List.map_toArray, List.map_cons, List.map_nil, hs, hx, hr]
  exact hK _ _ (h v' w' h2 h3 h5)
end
structure Turn (g : Nat) (v v' : Value) (w w' : World) : Prop where
 os : w'.os = w.os
 tape : w'.tape = w.tape
 output : w'.output = w.output
 size : w.heap.size ≤ w'.heap.size
 out : ∀ k, k < w.heap.size → k ≠ g → some k ≠ v.ownBlock → w'.heap[k]? = w.heap[k]?
 at_ : v'.ownBlock = v.ownBlock ∨ ∃ k, v'.ownBlock = some k ∧ w.heap.size ≤ k
structure BdR (B b : Nat) (l : List UInt8) (q : Option Addr) (v : Value) (w : World) : Prop where
 row : Row w b [.pointer q, v] 93
 own : w.ownsRow B 5 1 v l.length (Lib.byteCells l)
 ne : v.ownBlock ≠ some b
 q : q = none ∨ q = some ⟨b, 0, none⟩
 le : B ≤ b
section
variable {B b : Nat} {l : List UInt8} {q : Option Addr} {v v' : Value} {w w' : World}
theorem BdR.sl (h : BdR B b l q v w) : ∃ A c, v = .slice A l.length c := by
 rcases h.own.2 with ⟨hv, h0⟩ | ⟨k, cap, cur, hv, _⟩
 ·exact ⟨none, 0, by rw [hv, h0]⟩
 ·exact ⟨_, _, hv⟩
theorem BdR.low (h : BdR B b l q v w) (k : Nat) (hk : v.ownBlock = some k) : B ≤ k ∧ k < w.heap.size := by
 rcases h.own.2 with ⟨rfl, _⟩ | ⟨g, cap, cur, rfl, h1, h2, _⟩
 ·cases hk
 ·obtain rfl : g = k := by simpa [Value.ownBlock] using hk
  exact ⟨h1, (Array.getElem?_eq_some_iff.1 h2).1⟩
theorem Turn.refl (g : Nat) (v : Value) (w : World) : Turn g v v w w := ⟨rfl, rfl, rfl, Nat.le_refl _, fun _ _ _ _ => rfl, Or.inl rfl⟩
theorem Turn.trans {g : Nat} {v'' : Value} {w'' : World} (h : Turn g v v' w w') (k : Turn g v' v'' w' w'') : Turn g v v'' w w'' :=
 ⟨k.os.trans h.os, k.tape.trans h.tape, k.output.trans h.output, Nat.le_trans h.size k.size, fun j hj hg hv => (k.out j (Nat.lt_of_lt_of_le hj h.size) hg (fun e => by
  rcases h.at_ with e2 | ⟨m, e2, e3⟩
  ·exact hv (e.trans e2)
  ·rw [e2] at e; have := Option.some.inj e; omega)).trans (h.out j hj hg hv), by
  rcases k.at_ with e | ⟨m, e, e3⟩
  ·rcases h.at_ with e2 | ⟨m, e2, e3⟩
   ·exact Or.inl (e.trans e2)
   ·exact Or.inr ⟨m, e.trans e2, e3⟩
  ·exact Or.inr ⟨m, e, Nat.le_trans h.size e3⟩⟩
theorem Turn.set (w : World) (g k : Nat) (u v : Value) : Turn g v v w (w.setCell ⟨g, k, none⟩ u) := ⟨rfl, rfl, rfl, by simp [World.setCell], fun j _ hj _ => heap_set_other w g k u j hj, Or.inl rfl⟩
theorem BdR.keep (h : BdR B b l q v w) (hb : Below w.heap.size w w') : BdR B b l q v w' := ⟨h.row.keep hb, h.own.kept (row := none) ⟨hb.os, hb.tape, hb.output, hb.size, fun k hk _ => hb.block k hk⟩ (by cases v.ownBlock with | none => exact Or.inl rfl | some _ => exact Or.inr (by simp)), h.ne, h.q, h.le⟩
theorem BdR.set0 (h : BdR B b l q v w) : BdR B b l (some ⟨b, 0, none⟩) v (w.setCell ⟨b, 0, none⟩ (.pointer (some ⟨b, 0, none⟩))) :=
 ⟨h.row.set 0 (.pointer (some ⟨b, 0, none⟩)), h.own.kept (row := some b) ⟨rfl, rfl, rfl, by simp [World.setCell], fun k _ hk => heap_set_other w b 0 _ k (fun e => hk (by rw [e]))⟩ (Or.inr h.ne), h.ne, Or.inr rfl, h.le⟩
theorem BdR.new (w : World) : BdR w.heap.size w.heap.size [] none (.slice none 0 0) (w.alloc (.cells #[.pointer none, .slice none 0 0] 93)) :=
 ⟨Row.new w [.pointer none, .slice none 0 0] 93, ⟨rfl, Or.inl ⟨rfl, rfl⟩⟩, by simp [Value.ownBlock], Or.inl rfl, Nat.le_refl _⟩
theorem BdR.at (h : BdR B b l q v w) : Lib.IsBuilder 93 5 B b (Lib.byteCells l) w := by
 have h1 : Lib.BuilderAt 93 5 B b (.pointer q) (Lib.byteCells l) w := ⟨h.le, v, h.row, by rw [show (Lib.byteCells l).length = l.length by simp [Lib.byteCells]]; exact h.own, h.ne⟩
 rcases h.q with rfl | rfl
 ·exact Or.inl h1
 ·exact Or.inr h1
end
section
set_option maxHeartbeats 1000000
set_option maxRecDepth 100000
theorem copy_used (b : Nat) (w : World) (h0 : w.cell? ⟨b, 0, none⟩ = some (.pointer (some ⟨b, 0, none⟩))) :
  Calls Tryz.prog 89 #[.pointer (some ⟨b, 0, none⟩)] w fun e w' => e = .returned (.tuple #[]) ∧ w' = w := by
 obtain ⟨j, hj, _⟩ := Option.map_eq_some_iff.1 sizeBd
 go_enter Tryz.func89, Tryz.ntmps89
 go_wp2
 rw [Lib.run_neq_ptr_same w _ Tryz.underlying91 hj]
 go_wp2
 go_end0
 exact ⟨rfl, rfl⟩
theorem copy_fresh (b : Nat) (w : World) (h0 : w.cell? ⟨b, 0, none⟩ = some (.pointer none)) (hsh : w.shape? b = some (93, 2)) (hfz : w.frozen? ⟨b, 0, none⟩ = false) :
  Calls Tryz.prog 89 #[.pointer (some ⟨b, 0, none⟩)] w fun e w' => e = .returned (.tuple #[]) ∧ w' = w.setCell ⟨b, 0, none⟩ (.pointer (some ⟨b, 0, none⟩)) := by
 obtain ⟨j, hj, hjs⟩ := Option.map_eq_some_iff.1 sizeBd
 go_enter Tryz.func89, Tryz.ntmps89
 go_wp2
 rw [Lib.run_to_unsafe w ⟨b, 0, none⟩ Tryz.underlying91 Tryz.underlying160 hj (by rw [hjs]; decide) hsh (Nat.zero_lt_succ 1)]
 simp only [Result.andThen]
 rw [Oper.upon_value]
 go_wp2
 rw [run_callFunc_extern Tryz.func128 (by kernel_rfl) (by kernel_rfl) (by kernel_rfl) (e := Extern.AbiNoEscape.same) (by kernel_rfl)]
 rw [Lib.run_noEscape]
 simp only [Result.andThen]
 rw [Oper.upon_value]
 go_wp2
 rw [Lib.run_from_unsafe w ⟨b, 0, none⟩ Tryz.underlying160 Tryz.underlying91 hj hsh liesBd]
 simp only [Result.andThen]
 rw [Oper.upon_value]
 go_wp2
 go_end0
 exact ⟨rfl, rfl⟩
end
theorem BdR.copy {B b : Nat} {l : List UInt8} {q : Option Addr} {v : Value} {w : World} (h : BdR B b l q v w) : Calls Tryz.prog 89 #[.pointer (some ⟨b, 0, none⟩)] w fun e w' => e = .returned (.tuple #[]) ∧ BdR B b l (some ⟨b, 0, none⟩) v w' ∧ Turn b v v w w' := by
 have hc : w.cell? ⟨b, 0, none⟩ = some (.pointer q) := h.row.cell 0
 rcases h.q with rfl | rfl
 ·refine (copy_fresh b w hc (by have := h.row; unfold Row at this; simp [World.shape?, this]) (h.row.fz 0)).mono ?_
  rintro e w' ⟨rfl, rfl⟩
  exact ⟨rfl, h.set0, Turn.set w b 0 _ v⟩
 ·refine (copy_used b w hc).mono ?_
  rintro e w' ⟨rfl, rfl⟩
  exact ⟨rfl, h, Turn.refl b v _⟩
theorem BdR.wrote {B b : Nat} {l m : List UInt8} {q : Option Addr} {v : Value} {w1 w2 : World} {A : Option Addr} {n c : Nat} (h : BdR B b l q v w1) (ho : w2.ownsRow B 5 1 (.slice A n c) (l ++ m).length (Lib.byteCells (l ++ m))) (hg : w1.grownBy w2 v.ownBlock) (hat : (Value.slice A n c).ownBlock = v.ownBlock ∨ (Value.slice A n c).ownBlock = some w1.heap.size ∨ (Value.slice A n c).ownBlock = some (w1.heap.size + 1)) :
  BdR B b (l ++ m) q (.slice A n c) (w2.setCell ⟨b, 1, none⟩ (.slice A n c)) ∧ Turn b v (.slice A n c) w1 (w2.setCell ⟨b, 1, none⟩ (.slice A n c)) := by
 have hlt := h.row.lt
 have hrow : Row w2 b [.pointer q, v] 93 := h.row.same (hg.block b hlt (fun e => h.ne e.symm))
 have hne2 : (Value.slice A n c).ownBlock ≠ some b := fun e => by
  rcases hat with e2 | e2 | e2
  ·exact h.ne (e2.symm.trans e)
  ·rw [e2] at e
   have := Option.some.inj e
   omega
  ·rw [e2] at e
   have := Option.some.inj e
   omega
 have hT : Turn b v (.slice A n c) w1 w2 := ⟨hg.os, hg.tape, hg.output, hg.size, fun k hk _ hv => hg.block k hk hv, by
  rcases hat with e2 | e2 | e2
  ·exact Or.inl e2
  ·exact Or.inr ⟨_, e2, Nat.le_refl _⟩
  ·exact Or.inr ⟨_, e2, Nat.le_succ _⟩⟩
 exact ⟨⟨hrow.set 1 _, ho.kept (row := some b) ⟨rfl, rfl, rfl, by simp [World.setCell], fun k _ hk => heap_set_other w2 b 1 _ k (fun e => hk (by rw [e]))⟩ (Or.inr hne2), hne2, h.q, h.le⟩, hT.trans (Turn.set w2 b 1 _ _)⟩
section
set_option maxRecDepth 100000
set_option maxHeartbeats 1600000
theorem BdR.len {B b : Nat} {l : List UInt8} {q : Option Addr} {v : Value} {w : World} (h : BdR B b l q v w) : Calls Tryz.prog 57 #[.pointer (some ⟨b, 0, none⟩)] w fun e w' => e = .returned (.int .i64 (l.length : Int)) ∧ w' = w := by
 have h1 := Tryz.Builder_Len B b _ w h.at
 rwa [show (Lib.byteCells l).length = l.length by simp [Lib.byteCells]] at h1
theorem BdR.str {B b : Nat} {l : List UInt8} {q : Option Addr} {v : Value} {w : World} (h : BdR B b l q v w) (s : ByteArray) (hs : l.length + s.size ≤ 1000000000) (hB : B ≤ w.heap.size) : Calls Tryz.prog 51 #[.pointer (some ⟨b, 0, none⟩), .string s] w fun e w' => e = .returned (.tuple #[.int .i64 (s.size : Int), .nilIface]) ∧ ∃ v', BdR B b (l ++ bl s) (some ⟨b, 0, none⟩) v' w' ∧ Turn b v v' w w' := by
 have HX := Lib.hid (And.intro h (And.intro hs hB))
 clear h hs hB
 have T0 : True := trivial
 go_enter Tryz.func51, Tryz.ntmps51
 go_wp2_with (first
  | (have hh := T0; clear hh T0; go_at_call 89; refine HX.out.1.copy.mono ?_; rintro e w1 ⟨rfl, h1, ht⟩; have H1 := Lib.hid (And.intro h1 ht); have h34 : w1.cell? ⟨b, 1, none⟩ = some v := h1.row.cell 1; clear h1 ht; have T1 : True := trivial)
  | (at_builtin; refine wpList_append_str_at _ rfl _ _ 23 9 rfl B 5 Tryz.underlying23 Tryz.underlying9 infoBy v l.length (Lib.byteCells l) rfl H1.out.1.own s rfl HX.out.2.1 (Nat.le_trans HX.out.2.2 H1.out.2.size) ?_))
 intro v2 w2 ho hg hat
 have g34 : w2.cell? ⟨b, 1, none⟩ = some v := (H1.out.1.row.same (hg.block b H1.out.1.row.lt (fun e => H1.out.1.ne e.symm))).cell 1
 have f34 := (H1.out.1.row.same (hg.block b H1.out.1.row.lt (fun e => H1.out.1.ne e.symm))).fz 1
 obtain ⟨A, n', cap, rfl⟩ : ∃ A n' cap, v2 = .slice A n' cap := by
  rcases ho.2 with ⟨hv, _⟩ | ⟨k, cap, cur, hv, _⟩
  ·exact ⟨_, _, _, hv⟩
  ·exact ⟨_, _, _, hv⟩
 have H2 := Lib.hid (And.intro ho (And.intro hg hat))
 clear ho hg hat h34
 go_wp2
 go_ret2
 have r := BdR.wrote (m := bl s) H1.out.1 (by
  rw [List.length_append, show Lib.byteCells (l ++ bl s) = Lib.byteCells l ++ Lib.strCells s by simp [Lib.byteCells, Lib.strCells, bl], show (bl s).length = s.size from rfl]
  exact H2.out.1) H2.out.2.1 (H2.out.2.2.imp id Or.inl)
 exact ⟨rfl, .slice A n' cap, r.1, H1.out.2.trans r.2⟩
theorem BdR.byte {B b : Nat} {l : List UInt8} {q : Option Addr} {v : Value} {w : World} (h : BdR B b l q v w) (c : UInt8) (cc : Int) (hcc : ((c.toNat : Nat) : Int) = cc) (hs : l.length + 1 ≤ 1000000000) (hB : B ≤ w.heap.size) : Calls Tryz.prog 84 #[.pointer (some ⟨b, 0, none⟩), .int .u8 cc] w fun e w' => e = .returned .nilIface ∧ ∃ v', BdR B b (l ++ [c]) (some ⟨b, 0, none⟩) v' w' ∧ Turn b v v' w w' := by
 have HX := Lib.hid (And.intro h (And.intro hs (And.intro hB hcc)))
 clear h hs hB hcc
 have T0 : True := trivial
 go_enter Tryz.func84, Tryz.ntmps84
 go_wp2_with (first
  | (have hh := T0; clear hh T0; go_at_call 89; refine HX.out.1.copy.mono ?_; rintro e w1 ⟨rfl, h1, ht⟩; have H1 := Lib.hid (And.intro h1 ht); have h34 : w1.cell? ⟨b, 1, none⟩ = some v := h1.row.cell 1; clear h1 ht; have T1 : True := trivial)
  | (at_builtin; refine wpList_append_byte_at _ rfl _ _ 23 rfl B 5 Tryz.underlying23 infoBy v l.length (Lib.byteCells l) rfl (H1.out.1.keep (below_alloc _ _)).own ⟨w1.heap.size, 0, none⟩ cc rfl (by simp) HX.out.2.1 (Nat.le_trans HX.out.2.2.1 (Nat.le_trans H1.out.2.size (below_alloc _ _).size)) ?_))
 intro v2 w2 ho hg hat
 have hk1 := H1.out.1.keep (below_alloc w1 (.cells #[.int .u8 cc] 5))
 have g34 : w2.cell? ⟨b, 1, none⟩ = some v := (hk1.row.same (hg.block b hk1.row.lt (fun e => hk1.ne e.symm))).cell 1
 have f34 := (hk1.row.same (hg.block b hk1.row.lt (fun e => hk1.ne e.symm))).fz 1
 obtain ⟨A, n', cap, rfl⟩ : ∃ A n' cap, v2 = .slice A n' cap := by
  rcases ho.2 with ⟨hv, _⟩ | ⟨k, cap, cur, hv, _⟩
  ·exact ⟨_, _, _, hv⟩
  ·exact ⟨_, _, _, hv⟩
 have H2 := Lib.hid (And.intro ho (And.intro hg hat))
 have HK := Lib.hid hk1
 clear ho hg hat h34 hk1
 go_wp2
 go_ret
 have r := BdR.wrote (m := [c]) HK.out (by
  rw [List.length_append, show Lib.byteCells (l ++ [c]) = Lib.byteCells l ++ [.int .u8 cc] by rw [← HX.out.2.2.2]; simp [Lib.byteCells]]
  exact H2.out.1) H2.out.2.1 (H2.out.2.2.imp id (fun e => Or.inl (by rw [e]; simp)))
 refine ⟨rfl, .slice A n' cap, r.1, H1.out.2.trans ?_⟩
 have hb := below_alloc w1 (.cells #[.int .u8 cc] 5)
 exact Turn.trans ⟨hb.os, hb.tape, hb.output, hb.size, fun k hk _ _ => hb.block k hk, Or.inl rfl⟩ r.2
end
def Bd (B b : Nat) (l : List UInt8) (F : List Nat) (w : World) : Prop := ∃ q v, BdR B b l q v w ∧ (∀ k, v.ownBlock = some k → k ∉ F) ∧ (∀ k ∈ F, k < w.heap.size ∧ k ≠ b) ∧ B ≤ w.heap.size
def KeepF (B : Nat) (F : List Nat) (w w' : World) : Prop := Below B w w' ∧ ∀ k ∈ F, w'.heap[k]? = w.heap[k]?
section
variable {B b : Nat} {l : List UInt8} {F : List Nat} {w w' w'' : World}
theorem KeepF.refl : KeepF B F w w := ⟨Below.refl _ _, fun _ _ => rfl⟩
theorem KeepF.trans (h : KeepF B F w w') (k : KeepF B F w' w'') : KeepF B F w w'' := ⟨⟨k.1.os.trans h.1.os, k.1.tape.trans h.1.tape, k.1.output.trans h.1.output, Nat.le_trans h.1.size k.1.size, fun j hj => (k.1.block j hj).trans (h.1.block j hj)⟩, fun j hj => (k.2 j hj).trans (h.2 j hj)⟩
theorem Bd.turn {m : List UInt8} {q q' : Option Addr} {v v' : Value} (h : BdR B b l q v w) (hv : ∀ k, v.ownBlock = some k → k ∉ F) (hF : ∀ k ∈ F, k < w.heap.size ∧ k ≠ b) (hB : B ≤ w.heap.size) (h' : BdR B b m q' v' w') (ht : Turn b v v' w w') : Bd B b m F w' ∧ KeepF B F w w' := by
 refine ⟨⟨q', v', h', fun k hk hm => ?_, fun k hk => ⟨Nat.lt_of_lt_of_le (hF k hk).1 ht.size, (hF k hk).2⟩, Nat.le_trans hB ht.size⟩, ⟨ht.os, ht.tape, ht.output, ht.size, fun k hk => ?_⟩, fun k hk => ?_⟩
 ·rcases ht.at_ with e | ⟨j, e, e2⟩
  ·exact hv k (e.symm.trans hk) hm
  ·rw [e] at hk
   have := Option.some.inj hk
   have := (hF k hm).1
   omega
 ·refine ht.out k (Nat.lt_of_lt_of_le hk hB) (by have := h.le; omega) fun e => ?_
  have := h.low k e.symm
  omega
 ·exact ht.out k (hF k hk).1 (hF k hk).2 fun e => hv k e.symm hk
theorem Bd.new (w : World) : Bd w.heap.size w.heap.size [] [] (w.alloc (.cells #[.pointer none, .slice none 0 0] 93)) :=
 ⟨_, _, BdR.new w, (fun k hk => by cases hk), (fun k hk => by cases hk), (below_alloc _ _).size⟩
theorem Bd.more (h : Bd B b l F w) (hb : Below w.heap.size w w') (G : List Nat) (hG : ∀ k ∈ G, w.heap.size ≤ k ∧ k < w'.heap.size) : Bd B b l (G ++ F) w' := by
 obtain ⟨q, v, h1, h2, h3, h4⟩ := h
 refine ⟨q, v, h1.keep hb, fun k hk hm => ?_, fun k hk => ?_, Nat.le_trans h4 hb.size⟩
 ·rcases List.mem_append.1 hm with h5 | h5
  ·have := h1.low k hk
   have := hG k h5
   omega
  ·exact h2 k hk h5
 ·rcases List.mem_append.1 hk with h5 | h5
  ·have := hG k h5
   have := h1.row.lt
   omega
  ·exact ⟨Nat.lt_of_lt_of_le (h3 k h5).1 hb.size, (h3 k h5).2⟩
theorem Bd.keep (h : Bd B b l F w) (hb : Below w.heap.size w w') : Bd B b l F w' := h.more hb [] (fun _ hk => by cases hk)
theorem Bd.len (h : Bd B b l F w) : Calls Tryz.prog 57 #[.pointer (some ⟨b, 0, none⟩)] w fun e w' => e = .returned (.int .i64 (l.length : Int)) ∧ w' = w := by
 obtain ⟨q, v, h1, _⟩ := h
 exact h1.len
theorem Bd.str (h : Bd B b l F w) (s : ByteArray) (hs : l.length + s.size ≤ 1000000000) : Calls Tryz.prog 51 #[.pointer (some ⟨b, 0, none⟩), .string s] w fun e w' => e = .returned (.tuple #[.int .i64 (s.size : Int), .nilIface]) ∧ Bd B b (l ++ bl s) F w' ∧ KeepF B F w w' := by
 obtain ⟨q, v, h1, h2, h3, h4⟩ := h
 refine (h1.str s hs h4).mono ?_
 rintro e w' ⟨rfl, v', h5, h6⟩
 exact ⟨rfl, Bd.turn h1 h2 h3 h4 h5 h6⟩
theorem Bd.byte (h : Bd B b l F w) (c : UInt8) (cc : Int) (hcc : ((c.toNat : Nat) : Int) = cc) (hs : l.length + 1 ≤ 1000000000) : Calls Tryz.prog 84 #[.pointer (some ⟨b, 0, none⟩), .int .u8 cc] w fun e w' => e = .returned .nilIface ∧ Bd B b (l ++ [c]) F w' ∧ KeepF B F w w' := by
 obtain ⟨q, v, h1, h2, h3, h4⟩ := h
 refine (h1.byte c cc hcc hs h4).mono ?_
 rintro e w' ⟨rfl, v', h5, h6⟩
 exact ⟨rfl, Bd.turn h1 h2 h3 h4 h5 h6⟩
theorem Bd.string (h : Bd B b l F w) : Calls Tryz.prog 52 #[.pointer (some ⟨b, 0, none⟩)] w fun e w' => e = .returned (.string ⟨l.toArray⟩) ∧ Below B w w' := by
 obtain ⟨q, v, h1, h2, h3, h4⟩ := h
 exact Tryz.Builder_String_any B b l w h1.at h4
end
end
section
open Go.RowKit
theorem bl_inj {a b : ByteArray} (h : bl a = bl b) : a = b := by
 obtain ⟨⟨a⟩⟩ := a
 obtain ⟨⟨b⟩⟩ := b
 exact congrArg (fun l => (⟨⟨l⟩⟩ : ByteArray)) h
theorem bl_from (s : ByteArray) (n : Nat) : bl (s.extract n s.size) = (bl s).drop n := by
 show (s.extract n s.size).data.toList = _
 rw [Lib.extract_data, List.take_of_length_le (by rw [List.length_drop]; show (bl s).length - n ≤ s.size - n; rw [bl_length]; exact Nat.le_refl _)]
end
end Go.Proofs.YtibelollgdnidaaGreatDoor
