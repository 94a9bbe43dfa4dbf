/- The receiver of a text: its builder lies in it. The receiver's methods. The receiver's Hear, Text, New. The receiver's New and Text; a sender beside a receiver. A sender beside a receiver. -/
import Derived.Test.YtlelecnafdddhaaDoorL4b
import Derived.Test.YtlelecnafdddhaaDoorDoP
import Derived.Shelf.Strings.Builder1
import Derived.Laws.Externs
import Derived.Lib.AppendStr
import Derived.Lib.UnsafeStr
namespace Go.Proofs.YtlelecnafdddhaaDoor
section
open Go.RowKit
def cV (x : Id) (sz : Int) (q : Option Addr) (v : Value) (cp : Bool) : List Value := cI x ++ [.int .i64 sz, .pointer q, v, .bool cp]
theorem cV_length (x : Id) (sz : Int) (q : Option Addr) (v : Value) (cp : Bool) : (cV x sz q v cp).length = 36 := by simp [cV, cI_length]
theorem cV_hi (x : Id) (sz : Int) (q : Option Addr) (v : Value) (cp : Bool) (k : Nat) : (cV x sz q v cp)[32 + k]? = [Value.int .i64 sz, .pointer q, v, .bool cp][k]? := by
  unfold cV
  rw [List.getElem?_append_right (by rw [cI_length]; omega), cI_length, show 32 + k - 32 = k by omega]
theorem cV_set33 (x : Id) (sz : Int) (q q' : Option Addr) (v : Value) (cp : Bool) : (cV x sz q v cp).set 33 (.pointer q') = cV x sz q' v cp := by
  unfold cV
  rw [List.set_append_right _ _ (by rw [cI_length]; omega), cI_length]
  rfl
theorem cV_set34 (x : Id) (sz : Int) (q : Option Addr) (v v' : Value) (cp : Bool) : (cV x sz q v cp).set 34 v' = cV x sz q v' cp := by
  unfold cV
  rw [List.set_append_right _ _ (by rw [cI_length]; omega), cI_length]
  rfl
theorem cV_set35 (x : Id) (sz : Int) (q : Option Addr) (v : Value) (cp cp' : Bool) : (cV x sz q v cp).set 35 (.bool cp') = cV x sz q v cp' := by
  unfold cV
  rw [List.set_append_right _ _ (by rw [cI_length]; omega), cI_length]
  rfl
theorem shape_row {w : World} {g : Nat} {cs : List Value} {t : TypeId} (h : Row w g cs t) : w.shape? g = some (t, cs.length) := by
  unfold Row at h
  simp [World.shape?, h]
/-- A receiver at block g: the bytes that it has. -/
structure RecAt (g : Nat) (x : Id) (sz : Int) (l : List UInt8) (cp : Bool) (B : Nat) (w : World) : Prop where
  ex : ∃ q v, (q = none ∨ q = some ⟨g, 33, none⟩) ∧ Row w g (cV x sz q v cp) 113 ∧ w.ownsRow B 5 1 v l.length (Lib.byteCells l) ∧ v.ownBlock ≠ some g
  le : B ≤ g
theorem lies33 : liesAt Tryd.prog Tryd.prog.depth 113 (36 / Tryd.prog.cellsOf 113) 33 111 1 = true := by kernel_rfl
theorem info111 : (Tryd.prog.info? 111).map (·.size) = some 2 := by kernel_rfl
section
variable (w : World)
set_option maxRecDepth 100000 in
set_option maxHeartbeats 1600000 in
theorem copy69_used (g : Nat) (h0 : w.cell? ⟨g, 33, none⟩ = some (.pointer (some ⟨g, 33, none⟩))) : Calls Tryd.prog 69 #[.pointer (some ⟨g, 33, none⟩)] w fun e w' => e = .returned (.tuple #[]) ∧ w' = w := by
  obtain ⟨j, hj, _⟩ := Option.map_eq_some_iff.1 info111
  go_enter Tryd.func69, Tryd.ntmps69
  go_wp2
  rw [Lib.run_neq_ptr_same w _ Tryd.underlying109 hj]
  go_wp2
  go_end0
  exact ⟨rfl, rfl⟩
set_option maxRecDepth 100000 in
set_option maxHeartbeats 1600000 in
theorem copy69_fresh (g : Nat) (h0 : w.cell? ⟨g, 33, none⟩ = some (.pointer none)) (hsh : w.shape? g = some (113, 36)) (hfz : w.frozen? ⟨g, 33, none⟩ = false) : Calls Tryd.prog 69 #[.pointer (some ⟨g, 33, none⟩)] w fun e w' => e = .returned (.tuple #[]) ∧ w' = w.setCell ⟨g, 33, none⟩ (.pointer (some ⟨g, 33, none⟩)) := by
  obtain ⟨j, hj, hjs⟩ := Option.map_eq_some_iff.1 info111
  go_enter Tryd.func69, Tryd.ntmps69
  go_wp2
  rw [Lib.run_to_unsafe w ⟨g, 33, none⟩ Tryd.underlying109 Tryd.underlying141 hj (by rw [hjs]; decide) hsh (by show 33 < 36; decide)]
  simp only [Result.andThen]
  rw [Oper.upon_value]
  go_wp2
  rw [run_callFunc_extern Tryd.func75 (by kernel_rfl) (by kernel_rfl) (by kernel_rfl) (e := Extern.AbiNoEscape.same) (by kernel_rfl)]
  rw [Lib.run_noEscape]
  simp only [Result.andThen]
  rw [Oper.upon_value]
  go_wp2
  rw [Lib.run_from_unsafe w ⟨g, 33, none⟩ Tryd.underlying141 Tryd.underlying109 hj hsh lies33]
  simp only [Result.andThen]
  rw [Oper.upon_value]
  go_wp2
  go_end0
  exact ⟨rfl, rfl⟩
end
theorem infoB : (Tryd.prog.info? 5).map (fun i => (i.zero, i.size, i.bytes)) = some (some (.int .u8 0), 1, 1) := by kernel_rfl
section
variable {P : Program} (w : World)
theorem append_string_at (base : Nat) (t u ty e : TypeId) (i : TypeInfo) (ht : P.underlying t = some (.slice e)) (hu : P.underlying u = some .string) (hi : P.info? e = some i) (hz : i.zero = some (.int .u8 0)) (hsize : i.size = 1) (hby : i.bytes = 1)
    (v : Value) (n : Nat) (xs : List Value) (hown : w.ownsRow base e 1 v n xs) (s : ByteArray) (h63 : n + s.size ≤ 1000000) {v' : Value} {w' : World} (hr : (Builtin.append_ #[t, u] ty #[v, .string s]).run P w = .ok v' w') (hnil : v' = .slice none 0 0 ↔ v = .slice none 0 0 ∧ s.size = 0) : v'.ownBlock = v.ownBlock ∨ v'.ownBlock = some w.heap.size := by
  rcases hown.2 with ⟨rfl, rfl⟩ | ⟨g, cap, cur, rfl, hbg, hg, hnc, hcm, hcs, htake⟩
  · by_cases hm : s.size = 0
    · left
      rw [hnil.2 ⟨rfl, hm⟩]
    · right
      have h2 := run_append_nil_string (P := P) w t u ty e i (.int .u8 0) ht hu hi hz s (by omega) (by omega) (by rw [hby]; omega)
      rw [hr] at h2
      injection h2 with h2 _
      rw [h2]
      rfl
  · have hxl : xs.length = n := by simpa using hown.1
    by_cases hroom : n + s.size ≤ cap
    · left
      have hcs' : cur.size = cap := by simpa using hcs
      have h2 := Lib.run_append_room_string (P := P) w t u ty e i ht hu hi hsize g n cap cur hg s hroom (by omega)
      rw [hr] at h2
      injection h2 with h2 _
      rw [h2]
      rfl
    · right
      have holds : ∀ j u, xs[j]? = some u → w.cell? ((⟨g, 0, none⟩ : Addr).add j) = some u := hown.cells (g := g) rfl
      have h2 := Lib.run_append_grow_string (P := P) w t u ty e i (.int .u8 0) ht hu hi hz ⟨g, 0, none⟩ n cap xs (by rw [hsize]; simpa using hxl) holds s (by omega) (by omega) (by rw [hby]; exact growslice_fits (by omega) (by omega))
      rw [hr] at h2
      injection h2 with h2 _
      rw [h2]
      rfl
theorem wpList_append_str_at {ops : Array Oper} {rest : List Oper} {o : Oper} {a : Act} {Q : Exit → Act → World → Prop} (hgd : o.guard = none) (sl x : Operand) (t u : TypeId)
    (ho : o.op = .call { callee := .builtin .append, args := #[sl, x], argTypes := #[t, u] })
    (base : Nat) (e : TypeId) (ht : P.underlying t = some (.slice e)) (hu : P.underlying u = some .string) (hi : (P.info? e).map (fun i => (i.zero, i.size, i.bytes)) = some (some (.int .u8 0), 1, 1))
    (v : Value) (n : Nat) (xs : List Value) (hs : a.eval sl = v) (hown : w.ownsRow base e 1 v n xs) (s : ByteArray) (hx : a.eval x = .string s) (h63 : n + s.size ≤ 1000000) (hbase : base ≤ w.heap.size)
    (h : ∀ v' w', w'.ownsRow base e 1 v' (n + s.size) (xs ++ Lib.strCells s) → w.grownBy w' v.ownBlock → (v'.ownBlock = v.ownBlock ∨ v'.ownBlock = some w.heap.size) → wpList P ops Q rest (a.put o.dst v') w') : wpList P ops Q (o :: rest) a w := by
  refine wpList_plain hgd fun K hK => ?_
  cases hq : P.info? e with
  | none => rw [hq] at hi; cases hi
  | some i =>
    simp only [hq, Option.map_some, Option.some.injEq, Prod.mk.injEq] at hi
    obtain ⟨hz, hsize, hby⟩ := hi
    obtain ⟨v', w', hr, h2, h3, h4⟩ := Lib.run_append_own_string (P := P) w base t u o.type e i ht hu hq hz hsize hby v n xs hown s (by unfold maxLen; omega) (by omega) hbase
    unfold Oper.wp execOp
    simp only [ho, resolve, invoke, builtin, Sem.run_bind, Sem.run_pure, Result.andThen_ok, List.map_toArray, List.map_cons, List.map_nil, hs, hx, hr]
    exact hK _ _ (h v' w' h2 h3 (append_string_at (P := P) w base t u o.type e i ht hu hq hz hsize hby v n xs hown s h63 hr h4))
end
/-- The receiver's rows, its builder's pointer and slice named. -/
structure RecR (g : Nat) (x : Id) (sz : Int) (l : List UInt8) (cp : Bool) (q : Option Addr) (v : Value) (w : World) : Prop where
  row : Row w g (cV x sz q v cp) 113
  own : w.ownsRow 0 5 1 v l.length (Lib.byteCells l)
  ne : v.ownBlock ≠ some g
  q : q = none ∨ q = some ⟨g, 33, none⟩
/-- What a call of the receiver turns. -/
structure Turn (g : Nat) (v v' : Value) (w w' : World) : Prop where
  os : w'.os = w.os
  tape : w'.tape = w.tape
  output : w'.output = w.output
  size : w.heap.size ≤ w'.heap.size
  out : ∀ k, k < w.heap.size → k ≠ g → some k ≠ v.ownBlock → w'.heap[k]? = w.heap[k]?
  at_ : v'.ownBlock = v.ownBlock ∨ ∃ k, v'.ownBlock = some k ∧ w.heap.size ≤ k
section
variable {g : Nat} {x : Id} {sz : Int} {l : List UInt8} {cp : Bool} {q : Option Addr} {v v' : Value} {w w' : World}
theorem RecR.sl (h : RecR g x sz l cp q v w) : ∃ A c, v = .slice A l.length c := by
  rcases h.own.2 with ⟨hv, h0⟩ | ⟨k, cap, cur, hv, _⟩
  · exact ⟨none, 0, by rw [hv, h0]⟩
  · exact ⟨_, _, hv⟩
theorem Turn.refl (g : Nat) (v : Value) (w : World) : Turn g v v w w := ⟨rfl, rfl, rfl, Nat.le_refl _, fun _ _ _ _ => rfl, Or.inl rfl⟩
theorem Turn.of_below (h : Below w.heap.size w w') (g : Nat) (v : Value) : Turn g v v w w' := ⟨h.os, h.tape, h.output, h.size, fun k hk _ _ => h.block k hk, Or.inl rfl⟩
theorem Turn.trans {v'' : Value} {w'' : World} (h : Turn g v v' w w') (k : Turn g v' v'' w' w'') : Turn g v v'' w w'' :=
  ⟨k.os.trans h.os, k.tape.trans h.tape, k.output.trans h.output, Nat.le_trans h.size k.size, fun j hj hg hv => (k.out j (Nat.lt_of_lt_of_le hj h.size) hg (fun e => by
    rcases h.at_ with e2 | ⟨m, e2, e3⟩
    · exact hv (e.trans e2)
    · rw [e2] at e; have := Option.some.inj e; omega)).trans (h.out j hj hg hv), by
    rcases k.at_ with e | ⟨m, e, e3⟩
    · rcases h.at_ with e2 | ⟨m, e2, e3⟩
      · exact Or.inl (e.trans e2)
      · exact Or.inr ⟨m, e.trans e2, e3⟩
    · exact Or.inr ⟨m, e, Nat.le_trans h.size e3⟩⟩
theorem Turn.set (w : World) (g k : Nat) (u v : Value) : Turn g v v w (w.setCell ⟨g, k, none⟩ u) := ⟨rfl, rfl, rfl, by simp [World.setCell], fun j _ hj _ => heap_set_other w g k u j hj, Or.inl rfl⟩
theorem RecR.keep (h : RecR g x sz l cp q v w) (hb : Below w.heap.size w w') : RecR g x sz l cp q v w' := ⟨h.row.keep hb, h.own.kept (row := none) ⟨hb.os, hb.tape, hb.output, hb.size, fun k hk _ => hb.block k hk⟩ (by cases v.ownBlock with | none => exact Or.inl rfl | some _ => exact Or.inr (by simp)), h.ne, h.q⟩
theorem RecR.set33 (h : RecR g x sz l cp q v w) : RecR g x sz l cp (some ⟨g, 33, none⟩) v (w.setCell ⟨g, 33, none⟩ (.pointer (some ⟨g, 33, none⟩))) := by
  have r := h.row.set 33 (.pointer (some ⟨g, 33, none⟩))
  rw [cV_set33] at r
  exact ⟨r, h.own.kept (row := some g) ⟨rfl, rfl, rfl, by simp [World.setCell], fun k _ hk => heap_set_other w g 33 _ k (fun e => hk (by rw [e]))⟩ (Or.inr h.ne), h.ne, Or.inr rfl⟩
theorem RecR.copy (h : RecR g x sz l cp q v w) : Calls Tryd.prog 69 #[.pointer (some ⟨g, 33, none⟩)] w fun e w' => e = .returned (.tuple #[]) ∧ RecR g x sz l cp (some ⟨g, 33, none⟩) v w' ∧ Turn g v v w w' := by
  have hc := (h.row.cell 33).trans (cV_hi x sz q v cp 1)
  rcases h.q with rfl | rfl
  · refine (copy69_fresh w g hc ((shape_row h.row).trans (by rw [cV_length])) (h.row.fz 33)).mono ?_
    rintro e w' ⟨rfl, rfl⟩
    exact ⟨rfl, h.set33, Turn.set w g 33 _ v⟩
  · refine (copy69_used w g hc).mono ?_
    rintro e w' ⟨rfl, rfl⟩
    exact ⟨rfl, h, Turn.refl g v _⟩
end
set_option maxRecDepth 100000 in
set_option maxHeartbeats 1600000 in
theorem len53 (g : Nat) (x : Id) (sz : Int) (l : List UInt8) (cp : Bool) (q : Option Addr) (v : Value) (w : World) (h : RecR g x sz l cp q v w) : Calls Tryd.prog 53 #[.pointer (some ⟨g, 33, none⟩)] w fun e w' => e = .returned (.int .i64 (l.length : Int)) ∧ w' = w := by
  obtain ⟨A, c, rfl⟩ := h.sl
  have h34 := (h.row.cell 34).trans (cV_hi x sz q _ cp 2)
  generalize l.length = n at h34 ⊢
  clear h
  go_enter Tryd.func53, Tryd.ntmps53
  go_wp2
  go_ret
  exact ⟨rfl, rfl⟩
set_option maxRecDepth 100000 in
set_option maxHeartbeats 1600000 in
theorem write64 (g : Nat) (x : Id) (sz : Int) (l : List UInt8) (cp : Bool) (q : Option Addr) (v : Value) (s : ByteArray) (w : World) (h : RecR g x sz l cp q v w) (hs : l.length + s.size ≤ 1000000) : Calls Tryd.prog 64 #[.pointer (some ⟨g, 33, none⟩), .string s] w fun e w' => e = .returned (.tuple #[.int .i64 (s.size : Int), .nilIface]) ∧ ∃ v', RecR g x sz (l ++ s.data.toList) cp (some ⟨g, 33, none⟩) v' w' ∧ Turn g v v' w w' := by
  have HX := Lib.hid (And.intro h hs)
  clear h hs
  have T0 : True := trivial
  go_enter Tryd.func64, Tryd.ntmps64
  go_wp2_with (first
    | (have hh := T0; clear hh T0; go_at_call 69; refine HX.out.1.copy.mono ?_; rintro e w1 ⟨rfl, h1, ht⟩; have H1 := Lib.hid (And.intro h1 ht); have h34 := (h1.row.cell 34).trans (cV_hi x sz _ v cp 2); change w1.cell? ⟨g, 34, none⟩ = some v at h34; clear h1 ht; have T1 : True := trivial)
    | (at_builtin; refine wpList_append_str_at _ rfl (.tmp 12) (.tmp 13) 77 9 rfl 0 5 Tryd.underlying77 Tryd.underlying9 infoB v l.length (Lib.byteCells l) rfl H1.out.1.own s rfl HX.out.2 (Nat.zero_le _) ?_))
  intro v2 w2 ho hg hat
  have hlt := H1.out.1.row.lt
  have hrow : Row w2 g (cV x sz (some ⟨g, 33, none⟩) v cp) 113 := H1.out.1.row.same (hg.block g hlt (fun e => H1.out.1.ne e.symm))
  have g34 := (hrow.cell 34).trans (cV_hi x sz _ v cp 2)
  have f34 := hrow.fz 34
  change w2.cell? ⟨g, 34, none⟩ = some v at g34
  have hne2 : v2.ownBlock ≠ some g := fun e => by
    rcases hat with e2 | e2
    · exact H1.out.1.ne (e2.symm.trans e)
    · rw [e2] at e
      have := Option.some.inj e
      omega
  have hT : Turn g v v2 w1 w2 := ⟨hg.os, hg.tape, hg.output, hg.size, fun k hk _ hv => hg.block k hk hv, hat.imp id fun e => ⟨_, e, Nat.le_refl _⟩⟩
  obtain ⟨A, n', cap, rfl⟩ : ∃ A n' cap, v2 = .slice A n' cap := by
    rcases ho.2 with ⟨hv, _⟩ | ⟨k, cap, cur, hv, _⟩
    · exact ⟨_, _, _, hv⟩
    · exact ⟨_, _, _, hv⟩
  have H2 := Lib.hid (And.intro ho (And.intro hrow (And.intro hne2 hT)))
  clear ho hg hat hrow hne2 hT h34
  go_wp2
  go_ret2
  refine ⟨rfl, .slice A n' cap, ⟨?_, ?_, H2.out.2.2.1, Or.inr rfl⟩, (H1.out.2.trans H2.out.2.2.2).trans (Turn.set w2 g 34 _ _)⟩
  · have r := H2.out.2.1.set 34 (.slice A n' cap)
    rw [cV_set34] at r
    exact r
  · have ho := H2.out.1
    rw [List.length_append, show Lib.byteCells (l ++ s.data.toList) = Lib.byteCells l ++ Lib.strCells s by simp [Lib.byteCells, Lib.strCells], show s.data.toList.length = s.size from rfl]
    exact ho.kept (row := some g) ⟨rfl, rfl, rfl, by simp [World.setCell], fun k _ hk => heap_set_other w2 g 34 _ k (fun e => hk (by rw [e]))⟩ (Or.inr H2.out.2.2.1)
end
section
open Go.RowKit
theorem cV_id (x : Id) (sz : Int) (q : Option Addr) (v : Value) (cp : Bool) : ((cV x sz q v cp).drop 0).take 32 = cI x := by
  unfold cV
  rw [List.drop_zero, List.take_append_of_le_length (by rw [cI_length]; exact Nat.le_refl _), List.take_of_length_le (by rw [cI_length]; exact Nat.le_refl _)]
theorem row_V {w : World} {g : Nat} {x : Id} {sz : Int} {q : Option Addr} {v : Value} {cp : Bool} {ty : TypeId} (h : Row w g (cV x sz q v cp) ty) : (okA w ⟨g, 0, none⟩ 32 = true ∧ rdA w ⟨g, 0, none⟩ 32 = vI x) ∧ w.cell? ⟨g, 32, none⟩ = some (.int .i64 sz) ∧ w.cell? ⟨g, 34, none⟩ = some v ∧ w.cell? ⟨g, 35, none⟩ = some (.bool cp) ∧ g < w.heap.size := by
  have h1 := h.at_ (cV_id x sz q v cp)
  have a1 := h1.ok
  have a2 := h1.rd
  rw [cI_length] at a1 a2
  exact ⟨⟨a1, a2⟩, (h.cell 32).trans (cV_hi x sz q v cp 0), (h.cell 34).trans (cV_hi x sz q v cp 2), (h.cell 35).trans (cV_hi x sz q v cp 3), h.lt⟩
theorem row_C {w : World} {g : Nat} {c : Cm} {ty : TypeId} (h : Row w g (cC c) ty) : w.cell? ⟨g, 0, none⟩ = some (.int .i64 c.verb) ∧ (okA w ⟨g, 2, none⟩ 32 = true ∧ rdA w ⟨g, 2, none⟩ 32 = vI c.id) ∧ w.cell? ⟨g, 35, none⟩ = some (.int .i64 c.from_) ∧ w.cell? ⟨g, 38, none⟩ = some (.string c.text) ∧ (okA w ⟨g, 0, none⟩ 39 = true ∧ rdA w ⟨g, 0, none⟩ 39 = vC c) ∧ g < w.heap.size := by
  have h1 := h.at_ (cC_id c)
  have a1 := h1.ok
  have a2 := h1.rd
  rw [cI_length] at a1 a2
  exact ⟨h.cell 0, ⟨a1, a2⟩, (h.cell 35).trans ((List.getElem?_toArray ..).symm.trans (aC_35 c)), (h.cell 38).trans ((List.getElem?_toArray ..).symm.trans (aC_38 c)), h.okw (cC_length c), h.lt⟩
section
variable (g : Nat) (x : Id) (sz : Int) (l : List UInt8) (cp : Bool) (q : Option Addr) (v : Value) (w : World)
set_option maxRecDepth 100000 in
set_option maxHeartbeats 1600000 in
theorem from33 (h : RecR g x sz l cp q v w) : Calls Tryd.prog 33 #[.pointer (some ⟨g, 0, none⟩)] w fun e w' => e = .returned (.int .i64 (l.length : Int)) ∧ w' = w := by
  have HX := Lib.hid h
  clear h
  go_enter Tryd.func33, Tryd.ntmps33
  go_wp2_with (go_at_call 53; refine (len53 g x sz l cp q v _ HX.out).mono ?_; rintro e w1 ⟨rfl, rfl⟩)
  go_ret
  exact ⟨rfl, rfl⟩
set_option maxRecDepth 100000 in
set_option maxHeartbeats 1600000 in
theorem comp34 (h : RecR g x sz l cp q v w) : Calls Tryd.prog 34 #[.pointer (some ⟨g, 0, none⟩)] w fun e w' => e = .returned (.bool cp) ∧ w' = w := by
  obtain ⟨_, _, _, c35, _⟩ := row_V h.row
  clear h
  go_enter Tryd.func34, Tryd.ntmps34
  go_wp2
  go_ret
  exact ⟨rfl, rfl⟩
end
set_option maxRecDepth 100000 in
set_option maxHeartbeats 1600000 in
theorem data54 (g : Nat) (x : Id) (sz : Int) (l : List UInt8) (q : Option Addr) (v : Value) (c : Cm) (w : World) (h : RecR g x sz l false q v w) (hfr : c.from_ = (l.length : Int)) (hs : (l.length : Int) + (c.text.size : Int) ≤ sz) (hb : sz ≤ 65536) : Calls Tryd.prog 54 #[.pointer (some ⟨g, 0, none⟩), vC c] w fun e w' => e = .returned (.int .i64 0) ∧ ∃ v', RecR g x sz (l ++ c.text.data.toList) false (some ⟨g, 33, none⟩) v' w' ∧ Turn g v v' w w' := by
  have HB0 := Lib.hid (below_alloc w (.cells (aC c) 45))
  have HRC := Lib.hid (Row.new w (cC c) 45)
  obtain ⟨W1, hW⟩ : ∃ W1, w.alloc (.cells (aC c) 45) = W1 := ⟨_, rfl⟩
  have HRC1 := Lib.hid (show Row W1 w.heap.size (cC c) 45 by rw [← hW]; exact HRC.out)
  have HBW := Lib.hid (show Below w.heap.size w W1 by rw [← hW]; exact HB0.out)
  have HR := Lib.hid (h.keep HBW.out)
  obtain ⟨b3, hb3⟩ : ∃ b3, b3 = w.heap.size := ⟨_, rfl⟩
  have HRC2 := Lib.hid (show Row W1 b3 (cC c) 45 by rw [hb3]; exact HRC1.out)
  obtain ⟨n, hn⟩ : ∃ n, l.length = n := ⟨_, rfl⟩
  obtain ⟨txt, htx⟩ : ∃ txt, c.text = txt := ⟨_, rfl⟩
  obtain ⟨m, hm⟩ : ∃ m, txt.size = m := ⟨_, rfl⟩
  obtain ⟨d, hd⟩ : ∃ d, sz - (n : Int) = d := ⟨_, rfl⟩
  rw [hn] at hfr hs
  rw [htx] at hs ⊢
  rw [hm] at hs
  have HN := Lib.hid (And.intro hn (And.intro hfr (And.intro htx hm)))
  have HA := Lib.hid (And.intro hs (And.intro hb hd))
  clear h hn hfr hs hb htx hm hd
  go_enter Tryd.func54, Tryd.ntmps54
  go_wp2
  rw [← hb3]
  clear hW hb3
  refine AnyO.wp_anyI (by kernel_rfl) (by kernel_rfl) (AnyO.InvG (σ := Unit) (fun σ => AnyO.pvL [some (.pointer (some ⟨b3, 35, none⟩)), some (.int .i64 (n : Int)), some (.pointer (some ⟨g, 0, none⟩)), some (.pointer (some ⟨g, 0, none⟩)), some (.pointer (some ⟨g, 33, none⟩)), some (.int .i64 (n : Int)), some (.bool false), some (.bool false)]) (fun _ _ u => Below W1.heap.size W1 u)) (AnyO.InvG.start (g := ()) ((Below.refl _ _).drew)) ?_ ?_
  · intro i hi
    have hi2 : i = 0 ∨ i = 1 ∨ i = 2 ∨ i = 3 ∨ i = 4 ∨ i = 5 ∨ i = 6 ∨ i = 7 := by simp only [List.size_toArray, List.length_cons, List.length_nil] at hi; omega
    clear hi
    rcases hi2 with rfl | rfl | rfl | rfl | rfl | rfl | rfl | rfl
    · -- 0: Op.fieldAddr 45 (Operand.tmp 3) 4
      refine AnyO.StepI.mk rfl [] (by kernel_rfl) ?_
      intro D vs u hI h0 hC hp ac hb K hK
      obtain ⟨σ, hP, hW⟩ := hI
      have s3 : ac.tmps[3]?.getD undef = .pointer (some ⟨b3, 0, none⟩) := by rw [hb]; kernel_rfl
      rw [if_pos (AnyO.wanted_none rfl)]
      clear hb hp
      clear hC
      clear h0
      have HP := Lib.hid hP
      have HWq := Lib.hid hW
      clear hP hW
      go_simp
      have hP := HP.out
      have hW := HWq.out
      clear HP HWq
      exact hK _ _ (AnyO.InvG.step (g := σ) hP rfl hW)
    · -- 1: Op.load 3 (Operand.tmp 6)
      refine AnyO.StepI.mk rfl [0] (by kernel_rfl) ?_
      intro D vs u hI h0 hC hp ac hb K hK
      obtain ⟨σ, hP, hW⟩ := hI
      have s6 : ac.tmps[6]?.getD undef = .pointer (some ⟨b3, 35, none⟩) := by rw [hb]; exact (show _ = vs 0 by kernel_rfl).trans (show vs 0 = .pointer (some ⟨b3, 35, none⟩) from hP 0 (hp 0 (by decide)))
      rw [if_pos (AnyO.wanted_none rfl)]
      clear hb hp
      obtain ⟨rc0, ⟨rc2, rc2'⟩, rc35, rc38, ⟨rc, rc'⟩, _⟩ := row_C (HRC2.out.keep hW)
      rw [HN.out.2.1] at rc35
      clear hC
      clear h0
      have HP := Lib.hid hP
      have HWq := Lib.hid hW
      clear hP hW
      go_simp
      have hP := HP.out
      have hW := HWq.out
      clear HP HWq
      exact hK _ _ (AnyO.InvG.step (g := σ) hP rfl hW)
    · -- 2: Op.move (Operand.tmp 0)
      refine AnyO.StepI.mk rfl [] (by kernel_rfl) ?_
      intro D vs u hI h0 hC hp ac hb K hK
      obtain ⟨σ, hP, hW⟩ := hI
      have s0 : ac.tmps[0]?.getD undef = .pointer (some ⟨g, 0, none⟩) := by rw [hb]; kernel_rfl
      rw [if_pos (AnyO.wanted_none rfl)]
      clear hb hp
      clear hC
      clear h0
      have HP := Lib.hid hP
      have HWq := Lib.hid hW
      clear hP hW
      go_simp
      have hP := HP.out
      have hW := HWq.out
      clear HP HWq
      exact hK _ _ (AnyO.InvG.step (g := σ) hP rfl hW)
    · -- 3: Op.nilCheck (Operand.tmp 8)
      refine AnyO.StepI.mk rfl [2] (by kernel_rfl) ?_
      intro D vs u hI h0 hC hp ac hb K hK
      obtain ⟨σ, hP, hW⟩ := hI
      have s8 : ac.tmps[8]?.getD undef = .pointer (some ⟨g, 0, none⟩) := by rw [hb]; exact (show _ = vs 2 by kernel_rfl).trans (show vs 2 = .pointer (some ⟨g, 0, none⟩) from hP 2 (hp 2 (by decide)))
      rw [if_pos (AnyO.wanted_none rfl)]
      clear hb hp
      clear hC
      clear h0
      have HP := Lib.hid hP
      have HWq := Lib.hid hW
      clear hP hW
      go_simp
      have hP := HP.out
      have hW := HWq.out
      clear HP HWq
      exact hK _ _ (AnyO.InvG.step (g := σ) hP rfl hW)
    · -- 4: Op.fieldAddr 113 (Operand.tmp 9) 2
      refine AnyO.StepI.mk rfl [3] (by kernel_rfl) ?_
      intro D vs u hI h0 hC hp ac hb K hK
      obtain ⟨σ, hP, hW⟩ := hI
      have s9 : ac.tmps[9]?.getD undef = .pointer (some ⟨g, 0, none⟩) := by rw [hb]; exact (show _ = vs 3 by kernel_rfl).trans (show vs 3 = .pointer (some ⟨g, 0, none⟩) from hP 3 (hp 3 (by decide)))
      rw [if_pos (AnyO.wanted_none rfl)]
      clear hb hp
      clear hC
      clear h0
      have HP := Lib.hid hP
      have HWq := Lib.hid hW
      clear hP hW
      go_simp
      have hP := HP.out
      have hW := HWq.out
      clear HP HWq
      exact hK _ _ (AnyO.InvG.step (g := σ) hP rfl hW)
    · -- 5: Op.call { callee := Callee.value (Operand.func 53), args := 
      refine AnyO.StepI.mk rfl [4] (by kernel_rfl) ?_
      intro D vs u hI h0 hC hp ac hb K hK
      obtain ⟨σ, hP, hW⟩ := hI
      have s10 : ac.tmps[10]?.getD undef = .pointer (some ⟨g, 33, none⟩) := by rw [hb]; exact (show _ = vs 4 by kernel_rfl).trans (show vs 4 = .pointer (some ⟨g, 33, none⟩) from hP 4 (hp 4 (by decide)))
      rw [if_pos (AnyO.wanted_none rfl)]
      clear hb hp
      clear hC
      clear h0
      have HP := Lib.hid hP
      have HWq := Lib.hid hW
      clear hP hW
      go_simp
      have hP := HP.out
      have hW := HWq.out
      clear HP HWq
      go_at_call 53
      refine (len53 g x sz l false q v u (HR.out.keep hW)).mono ?_
      rintro e w2 ⟨rfl, rfl⟩
      rw [HN.out.1]
      exact hK _ _ (AnyO.InvG.step (g := σ) hP rfl hW)
    · -- 6: Op.binOp BinOp.neq 3 (Operand.tmp 7) (Operand.tmp 11) 3
      refine AnyO.StepI.mk rfl [1, 5] (by kernel_rfl) ?_
      intro D vs u hI h0 hC hp ac hb K hK
      obtain ⟨σ, hP, hW⟩ := hI
      have s7 : ac.tmps[7]?.getD undef = .int .i64 (n : Int) := by rw [hb]; exact (show _ = vs 1 by kernel_rfl).trans (show vs 1 = .int .i64 (n : Int) from hP 1 (hp 1 (by decide)))
      have s11 : ac.tmps[11]?.getD undef = .int .i64 (n : Int) := by rw [hb]; exact (show _ = vs 5 by kernel_rfl).trans (show vs 5 = .int .i64 (n : Int) from hP 5 (hp 5 (by decide)))
      rw [if_pos (AnyO.wanted_none rfl)]
      clear hb hp
      clear hC
      clear h0
      have HP := Lib.hid hP
      have HWq := Lib.hid hW
      clear hP hW
      go_simp
      have hP := HP.out
      have hW := HWq.out
      clear HP HWq
      exact hK _ _ (AnyO.InvG.step (g := σ) hP rfl hW)
    · -- 7: Op.assign (Operand.tmp 12)
      refine AnyO.StepI.mk rfl [6, 5] (by kernel_rfl) ?_
      intro D vs u hI h0 hC hp ac hb K hK
      obtain ⟨σ, hP, hW⟩ := hI
      have s12 : ac.tmps[12]?.getD undef = .bool false := by rw [hb]; exact (show _ = vs 6 by kernel_rfl).trans (show vs 6 = .bool false from hP 6 (hp 6 (by decide)))
      rw [if_pos (AnyO.wanted_none rfl)]
      clear hb hp
      clear hC
      clear h0
      have HP := Lib.hid hP
      have HWq := Lib.hid hW
      clear hP hW
      go_simp
      have hP := HP.out
      have hW := HWq.out
      clear HP HWq
      exact hK _ _ (AnyO.InvG.step (g := σ) hP rfl hW)
  · intro D vs u hI hD
    obtain ⟨σ, hP, hW⟩ := hI
    have e0 : vs 0 = .pointer (some ⟨b3, 35, none⟩) := hP 0 (hD 0 (by decide))
    have e1 : vs 1 = .int .i64 (n : Int) := hP 1 (hD 1 (by decide))
    have e2 : vs 2 = .pointer (some ⟨g, 0, none⟩) := hP 2 (hD 2 (by decide))
    have e3 : vs 3 = .pointer (some ⟨g, 0, none⟩) := hP 3 (hD 3 (by decide))
    have e4 : vs 4 = .pointer (some ⟨g, 33, none⟩) := hP 4 (hD 4 (by decide))
    have e5 : vs 5 = .int .i64 (n : Int) := hP 5 (hD 5 (by decide))
    have e6 : vs 6 = .bool false := hP 6 (hD 6 (by decide))
    have e7 : vs 7 = .bool false := hP 7 (hD 7 (by decide))
    have HW := Lib.hid hW
    clear hW hP hD
    rw [puts_range [some 6, some 7, some 8, some 9, some 10, some 11, some 12, some 5] (by kernel_rfl)]
    simp only [putL, Nat.reduceAdd, e0, e1, e2, e3, e4, e5, e6, e7]
    clear e0 e1 e2 e3 e4 e5 e6 e7
    go_simp
    go_wp2
    refine AnyO.wp_anyI (by kernel_rfl) (by kernel_rfl) (AnyO.InvG (σ := Unit) (fun σ => AnyO.pvL [some (.pointer (some ⟨b3, 38, none⟩)), some (.string txt), some (.int .i64 (m : Int)), some (.pointer (some ⟨g, 0, none⟩)), some (.pointer (some ⟨g, 0, none⟩)), some (.pointer (some ⟨g, 32, none⟩)), some (.int .i64 sz), some (.pointer (some ⟨g, 0, none⟩)), some (.pointer (some ⟨g, 0, none⟩)), some (.pointer (some ⟨g, 33, none⟩)), some (.int .i64 (n : Int)), some (.int .i64 d), some (.bool false), some (.bool false)]) (fun _ _ u => Below W1.heap.size W1 u)) (AnyO.InvG.start (g := ()) (HW.out.drew)) ?_ ?_
    · intro i hi
      have hi2 : i = 0 ∨ i = 1 ∨ i = 2 ∨ i = 3 ∨ i = 4 ∨ i = 5 ∨ i = 6 ∨ i = 7 ∨ i = 8 ∨ i = 9 ∨ i = 10 ∨ i = 11 ∨ i = 12 ∨ i = 13 := by simp only [List.size_toArray, List.length_cons, List.length_nil] at hi; omega
      clear hi
      rcases hi2 with rfl | rfl | rfl | rfl | rfl | rfl | rfl | rfl | rfl | rfl | rfl | rfl | rfl | rfl
      · -- 0: Op.fieldAddr 45 (Operand.tmp 3) 7
        refine AnyO.StepI.mk rfl [] (by kernel_rfl) ?_
        intro D vs u hI h0 hC hp ac hb K hK
        obtain ⟨σ, hP, hW⟩ := hI
        have s3 : ac.tmps[3]?.getD undef = .pointer (some ⟨b3, 0, none⟩) := by rw [hb]; kernel_rfl
        rw [if_pos (AnyO.wanted_none rfl)]
        clear hb hp
        clear hC
        clear h0
        have HP := Lib.hid hP
        have HWq := Lib.hid hW
        clear hP hW
        go_simp
        have hP := HP.out
        have hW := HWq.out
        clear HP HWq
        exact hK _ _ (AnyO.InvG.step (g := σ) hP rfl hW)
      · -- 1: Op.load 9 (Operand.tmp 14)
        refine AnyO.StepI.mk rfl [0] (by kernel_rfl) ?_
        intro D vs u hI h0 hC hp ac hb K hK
        obtain ⟨σ, hP, hW⟩ := hI
        have s14 : ac.tmps[14]?.getD undef = .pointer (some ⟨b3, 38, none⟩) := by rw [hb]; exact (show _ = vs 0 by kernel_rfl).trans (show vs 0 = .pointer (some ⟨b3, 38, none⟩) from hP 0 (hp 0 (by decide)))
        rw [if_pos (AnyO.wanted_none rfl)]
        clear hb hp
        obtain ⟨rc0, ⟨rc2, rc2'⟩, rc35, rc38, ⟨rc, rc'⟩, _⟩ := row_C (HRC2.out.keep hW)
        rw [HN.out.2.2.1] at rc38
        clear hC
        clear h0
        have HP := Lib.hid hP
        have HWq := Lib.hid hW
        clear hP hW
        go_simp
        have hP := HP.out
        have hW := HWq.out
        clear HP HWq
        exact hK _ _ (AnyO.InvG.step (g := σ) hP rfl hW)
      · -- 2: Op.call { callee := Callee.builtin Builtin.len, args := #[Op
        refine AnyO.StepI.mk rfl [1] (by kernel_rfl) ?_
        intro D vs u hI h0 hC hp ac hb K hK
        obtain ⟨σ, hP, hW⟩ := hI
        have s15 : ac.tmps[15]?.getD undef = .string txt := by rw [hb]; exact (show _ = vs 1 by kernel_rfl).trans (show vs 1 = .string txt from hP 1 (hp 1 (by decide)))
        rw [if_pos (AnyO.wanted_none rfl)]
        clear hb hp
        have hms := HN.out.2.2.2
        clear hC
        clear h0
        have HP := Lib.hid hP
        have HWq := Lib.hid hW
        clear hP hW
        go_simp
        have hP := HP.out
        have hW := HWq.out
        clear HP HWq
        exact hK _ _ (AnyO.InvG.step (g := σ) hP rfl hW)
      · -- 3: Op.move (Operand.tmp 0)
        refine AnyO.StepI.mk rfl [] (by kernel_rfl) ?_
        intro D vs u hI h0 hC hp ac hb K hK
        obtain ⟨σ, hP, hW⟩ := hI
        have s0 : ac.tmps[0]?.getD undef = .pointer (some ⟨g, 0, none⟩) := by rw [hb]; kernel_rfl
        rw [if_pos (AnyO.wanted_none rfl)]
        clear hb hp
        clear hC
        clear h0
        have HP := Lib.hid hP
        have HWq := Lib.hid hW
        clear hP hW
        go_simp
        have hP := HP.out
        have hW := HWq.out
        clear HP HWq
        exact hK _ _ (AnyO.InvG.step (g := σ) hP rfl hW)
      · -- 4: Op.nilCheck (Operand.tmp 17)
        refine AnyO.StepI.mk rfl [3] (by kernel_rfl) ?_
        intro D vs u hI h0 hC hp ac hb K hK
        obtain ⟨σ, hP, hW⟩ := hI
        have s17 : ac.tmps[17]?.getD undef = .pointer (some ⟨g, 0, none⟩) := by rw [hb]; exact (show _ = vs 3 by kernel_rfl).trans (show vs 3 = .pointer (some ⟨g, 0, none⟩) from hP 3 (hp 3 (by decide)))
        rw [if_pos (AnyO.wanted_none rfl)]
        clear hb hp
        clear hC
        clear h0
        have HP := Lib.hid hP
        have HWq := Lib.hid hW
        clear hP hW
        go_simp
        have hP := HP.out
        have hW := HWq.out
        clear HP HWq
        exact hK _ _ (AnyO.InvG.step (g := σ) hP rfl hW)
      · -- 5: Op.fieldAddr 113 (Operand.tmp 18) 1
        refine AnyO.StepI.mk rfl [4] (by kernel_rfl) ?_
        intro D vs u hI h0 hC hp ac hb K hK
        obtain ⟨σ, hP, hW⟩ := hI
        have s18 : ac.tmps[18]?.getD undef = .pointer (some ⟨g, 0, none⟩) := by rw [hb]; exact (show _ = vs 4 by kernel_rfl).trans (show vs 4 = .pointer (some ⟨g, 0, none⟩) from hP 4 (hp 4 (by decide)))
        rw [if_pos (AnyO.wanted_none rfl)]
        clear hb hp
        clear hC
        clear h0
        have HP := Lib.hid hP
        have HWq := Lib.hid hW
        clear hP hW
        go_simp
        have hP := HP.out
        have hW := HWq.out
        clear HP HWq
        exact hK _ _ (AnyO.InvG.step (g := σ) hP rfl hW)
      · -- 6: Op.load 3 (Operand.tmp 19)
        refine AnyO.StepI.mk rfl [5] (by kernel_rfl) ?_
        intro D vs u hI h0 hC hp ac hb K hK
        obtain ⟨σ, hP, hW⟩ := hI
        have s19 : ac.tmps[19]?.getD undef = .pointer (some ⟨g, 32, none⟩) := by rw [hb]; exact (show _ = vs 5 by kernel_rfl).trans (show vs 5 = .pointer (some ⟨g, 32, none⟩) from hP 5 (hp 5 (by decide)))
        rw [if_pos (AnyO.wanted_none rfl)]
        clear hb hp
        obtain ⟨_, rr32, _⟩ := row_V (HR.out.keep hW).row
        clear hC
        clear h0
        have HP := Lib.hid hP
        have HWq := Lib.hid hW
        clear hP hW
        go_simp
        have hP := HP.out
        have hW := HWq.out
        clear HP HWq
        exact hK _ _ (AnyO.InvG.step (g := σ) hP rfl hW)
      · -- 7: Op.move (Operand.tmp 0)
        refine AnyO.StepI.mk rfl [] (by kernel_rfl) ?_
        intro D vs u hI h0 hC hp ac hb K hK
        obtain ⟨σ, hP, hW⟩ := hI
        have s0 : ac.tmps[0]?.getD undef = .pointer (some ⟨g, 0, none⟩) := by rw [hb]; kernel_rfl
        rw [if_pos (AnyO.wanted_none rfl)]
        clear hb hp
        clear hC
        clear h0
        have HP := Lib.hid hP
        have HWq := Lib.hid hW
        clear hP hW
        go_simp
        have hP := HP.out
        have hW := HWq.out
        clear HP HWq
        exact hK _ _ (AnyO.InvG.step (g := σ) hP rfl hW)
      · -- 8: Op.nilCheck (Operand.tmp 21)
        refine AnyO.StepI.mk rfl [7] (by kernel_rfl) ?_
        intro D vs u hI h0 hC hp ac hb K hK
        obtain ⟨σ, hP, hW⟩ := hI
        have s21 : ac.tmps[21]?.getD undef = .pointer (some ⟨g, 0, none⟩) := by rw [hb]; exact (show _ = vs 7 by kernel_rfl).trans (show vs 7 = .pointer (some ⟨g, 0, none⟩) from hP 7 (hp 7 (by decide)))
        rw [if_pos (AnyO.wanted_none rfl)]
        clear hb hp
        clear hC
        clear h0
        have HP := Lib.hid hP
        have HWq := Lib.hid hW
        clear hP hW
        go_simp
        have hP := HP.out
        have hW := HWq.out
        clear HP HWq
        exact hK _ _ (AnyO.InvG.step (g := σ) hP rfl hW)
      · -- 9: Op.fieldAddr 113 (Operand.tmp 22) 2
        refine AnyO.StepI.mk rfl [8] (by kernel_rfl) ?_
        intro D vs u hI h0 hC hp ac hb K hK
        obtain ⟨σ, hP, hW⟩ := hI
        have s22 : ac.tmps[22]?.getD undef = .pointer (some ⟨g, 0, none⟩) := by rw [hb]; exact (show _ = vs 8 by kernel_rfl).trans (show vs 8 = .pointer (some ⟨g, 0, none⟩) from hP 8 (hp 8 (by decide)))
        rw [if_pos (AnyO.wanted_none rfl)]
        clear hb hp
        clear hC
        clear h0
        have HP := Lib.hid hP
        have HWq := Lib.hid hW
        clear hP hW
        go_simp
        have hP := HP.out
        have hW := HWq.out
        clear HP HWq
        exact hK _ _ (AnyO.InvG.step (g := σ) hP rfl hW)
      · -- 10: Op.call { callee := Callee.value (Operand.func 53), args := 
        refine AnyO.StepI.mk rfl [9] (by kernel_rfl) ?_
        intro D vs u hI h0 hC hp ac hb K hK
        obtain ⟨σ, hP, hW⟩ := hI
        have s23 : ac.tmps[23]?.getD undef = .pointer (some ⟨g, 33, none⟩) := by rw [hb]; exact (show _ = vs 9 by kernel_rfl).trans (show vs 9 = .pointer (some ⟨g, 33, none⟩) from hP 9 (hp 9 (by decide)))
        rw [if_pos (AnyO.wanted_none rfl)]
        clear hb hp
        clear hC
        clear h0
        have HP := Lib.hid hP
        have HWq := Lib.hid hW
        clear hP hW
        go_simp
        have hP := HP.out
        have hW := HWq.out
        clear HP HWq
        go_at_call 53
        refine (len53 g x sz l false q v u (HR.out.keep hW)).mono ?_
        rintro e w2 ⟨rfl, rfl⟩
        rw [HN.out.1]
        exact hK _ _ (AnyO.InvG.step (g := σ) hP rfl hW)
      · -- 11: Op.binOp BinOp.sub 3 (Operand.tmp 20) (Operand.tmp 24) 3
        refine AnyO.StepI.mk rfl [6, 10] (by kernel_rfl) ?_
        intro D vs u hI h0 hC hp ac hb K hK
        obtain ⟨σ, hP, hW⟩ := hI
        have s20 : ac.tmps[20]?.getD undef = .int .i64 sz := by rw [hb]; exact (show _ = vs 6 by kernel_rfl).trans (show vs 6 = .int .i64 sz from hP 6 (hp 6 (by decide)))
        have s24 : ac.tmps[24]?.getD undef = .int .i64 (n : Int) := by rw [hb]; exact (show _ = vs 10 by kernel_rfl).trans (show vs 10 = .int .i64 (n : Int) from hP 10 (hp 10 (by decide)))
        rw [if_pos (AnyO.wanted_none rfl)]
        clear hb hp
        have hwd : IntKind.i64.wrap (sz - (n : Int)) = d := by have ha := HA.out; rw [IntWalk.i64_in _ (by omega)]; exact ha.2.2
        clear hC
        clear h0
        have HP := Lib.hid hP
        have HWq := Lib.hid hW
        clear hP hW
        go_simp
        have hP := HP.out
        have hW := HWq.out
        clear HP HWq
        exact hK _ _ (AnyO.InvG.step (g := σ) hP rfl hW)
      · -- 12: Op.binOp BinOp.gtr 3 (Operand.tmp 16) (Operand.tmp 25) 3
        refine AnyO.StepI.mk rfl [2, 11] (by kernel_rfl) ?_
        intro D vs u hI h0 hC hp ac hb K hK
        obtain ⟨σ, hP, hW⟩ := hI
        have s16 : ac.tmps[16]?.getD undef = .int .i64 (m : Int) := by rw [hb]; exact (show _ = vs 2 by kernel_rfl).trans (show vs 2 = .int .i64 (m : Int) from hP 2 (hp 2 (by decide)))
        have s25 : ac.tmps[25]?.getD undef = .int .i64 d := by rw [hb]; exact (show _ = vs 11 by kernel_rfl).trans (show vs 11 = .int .i64 d from hP 11 (hp 11 (by decide)))
        rw [if_pos (AnyO.wanted_none rfl)]
        clear hb hp
        have hgt : ¬ ((m : Int) > d) := by have ha := HA.out; omega
        have hgt2 : ¬ (d < (m : Int)) := hgt
        clear hC
        clear h0
        have HP := Lib.hid hP
        have HWq := Lib.hid hW
        clear hP hW
        go_simp
        have hP := HP.out
        have hW := HWq.out
        clear HP HWq
        exact hK _ _ (AnyO.InvG.step (g := σ) hP rfl hW)
      · -- 13: Op.assign (Operand.tmp 26)
        refine AnyO.StepI.mk rfl [12, 10] (by kernel_rfl) ?_
        intro D vs u hI h0 hC hp ac hb K hK
        obtain ⟨σ, hP, hW⟩ := hI
        have s26 : ac.tmps[26]?.getD undef = .bool false := by rw [hb]; exact (show _ = vs 12 by kernel_rfl).trans (show vs 12 = .bool false from hP 12 (hp 12 (by decide)))
        rw [if_pos (AnyO.wanted_none rfl)]
        clear hb hp
        clear hC
        clear h0
        have HP := Lib.hid hP
        have HWq := Lib.hid hW
        clear hP hW
        go_simp
        have hP := HP.out
        have hW := HWq.out
        clear HP HWq
        exact hK _ _ (AnyO.InvG.step (g := σ) hP rfl hW)
    · intro D vs u hI hD
      obtain ⟨σ, hP, hW⟩ := hI
      have e0 : vs 0 = .pointer (some ⟨b3, 38, none⟩) := hP 0 (hD 0 (by decide))
      have e1 : vs 1 = .string txt := hP 1 (hD 1 (by decide))
      have e2 : vs 2 = .int .i64 (m : Int) := hP 2 (hD 2 (by decide))
      have e3 : vs 3 = .pointer (some ⟨g, 0, none⟩) := hP 3 (hD 3 (by decide))
      have e4 : vs 4 = .pointer (some ⟨g, 0, none⟩) := hP 4 (hD 4 (by decide))
      have e5 : vs 5 = .pointer (some ⟨g, 32, none⟩) := hP 5 (hD 5 (by decide))
      have e6 : vs 6 = .int .i64 sz := hP 6 (hD 6 (by decide))
      have e7 : vs 7 = .pointer (some ⟨g, 0, none⟩) := hP 7 (hD 7 (by decide))
      have e8 : vs 8 = .pointer (some ⟨g, 0, none⟩) := hP 8 (hD 8 (by decide))
      have e9 : vs 9 = .pointer (some ⟨g, 33, none⟩) := hP 9 (hD 9 (by decide))
      have e10 : vs 10 = .int .i64 (n : Int) := hP 10 (hD 10 (by decide))
      have e11 : vs 11 = .int .i64 d := hP 11 (hD 11 (by decide))
      have e12 : vs 12 = .bool false := hP 12 (hD 12 (by decide))
      have e13 : vs 13 = .bool false := hP 13 (hD 13 (by decide))
      have HW := Lib.hid hW
      clear hW hP hD
      rw [puts_range [some 14, some 15, some 16, some 17, some 18, some 19, some 20, some 21, some 22, some 23, some 24, some 25, some 26, some 13] (by kernel_rfl)]
      simp only [putL, Nat.reduceAdd, e0, e1, e2, e3, e4, e5, e6, e7, e8, e9, e10, e11, e12, e13]
      clear e0 e1 e2 e3 e4 e5 e6 e7 e8 e9 e10 e11 e12 e13
      go_simp
      go_wp2
      refine AnyO.wp_anyI (by kernel_rfl) (by kernel_rfl) (AnyO.InvG (σ := Value) (fun σ => AnyO.pvL [some (.pointer (some ⟨g, 0, none⟩)), some (.pointer (some ⟨g, 0, none⟩)), some (.pointer (some ⟨g, 33, none⟩)), some (.pointer (some ⟨b3, 38, none⟩)), some (.string txt), some (.tuple #[.int .i64 (m : Int), .nilIface])]) (fun (σ : Value) D u => (D 5 = false → Below W1.heap.size W1 u) ∧ (D 5 = true → RecR g x sz (l ++ txt.data.toList) false (some ⟨g, 33, none⟩) σ u ∧ Turn g v σ W1 u))) (AnyO.InvG.start (g := v) (⟨fun _ => HW.out.drew, fun h => by cases h⟩)) ?_ ?_
      · intro i hi
        have hi2 : i = 0 ∨ i = 1 ∨ i = 2 ∨ i = 3 ∨ i = 4 ∨ i = 5 := by simp only [List.size_toArray, List.length_cons, List.length_nil] at hi; omega
        clear hi
        rcases hi2 with rfl | rfl | rfl | rfl | rfl | rfl
        · -- 0: Op.move (Operand.tmp 0)
          refine AnyO.StepI.mk rfl [] (by kernel_rfl) ?_
          intro D vs u hI h0 hC hp ac hb K hK
          obtain ⟨σ, hP, hW⟩ := hI
          have s0 : ac.tmps[0]?.getD undef = .pointer (some ⟨g, 0, none⟩) := by rw [hb]; kernel_rfl
          rw [if_pos (AnyO.wanted_none rfl)]
          clear hb hp
          clear hC
          clear h0
          have HP := Lib.hid hP
          have HWq := Lib.hid hW
          clear hP hW
          go_simp
          have hP := HP.out
          have hW := HWq.out
          clear HP HWq
          exact hK _ _ (AnyO.InvG.step (g := σ) hP rfl hW)
        · -- 1: Op.nilCheck (Operand.tmp 27)
          refine AnyO.StepI.mk rfl [0] (by kernel_rfl) ?_
          intro D vs u hI h0 hC hp ac hb K hK
          obtain ⟨σ, hP, hW⟩ := hI
          have s27 : ac.tmps[27]?.getD undef = .pointer (some ⟨g, 0, none⟩) := by rw [hb]; exact (show _ = vs 0 by kernel_rfl).trans (show vs 0 = .pointer (some ⟨g, 0, none⟩) from hP 0 (hp 0 (by decide)))
          rw [if_pos (AnyO.wanted_none rfl)]
          clear hb hp
          clear hC
          clear h0
          have HP := Lib.hid hP
          have HWq := Lib.hid hW
          clear hP hW
          go_simp
          have hP := HP.out
          have hW := HWq.out
          clear HP HWq
          exact hK _ _ (AnyO.InvG.step (g := σ) hP rfl hW)
        · -- 2: Op.fieldAddr 113 (Operand.tmp 28) 2
          refine AnyO.StepI.mk rfl [1] (by kernel_rfl) ?_
          intro D vs u hI h0 hC hp ac hb K hK
          obtain ⟨σ, hP, hW⟩ := hI
          have s28 : ac.tmps[28]?.getD undef = .pointer (some ⟨g, 0, none⟩) := by rw [hb]; exact (show _ = vs 1 by kernel_rfl).trans (show vs 1 = .pointer (some ⟨g, 0, none⟩) from hP 1 (hp 1 (by decide)))
          rw [if_pos (AnyO.wanted_none rfl)]
          clear hb hp
          clear hC
          clear h0
          have HP := Lib.hid hP
          have HWq := Lib.hid hW
          clear hP hW
          go_simp
          have hP := HP.out
          have hW := HWq.out
          clear HP HWq
          exact hK _ _ (AnyO.InvG.step (g := σ) hP rfl hW)
        · -- 3: Op.fieldAddr 45 (Operand.tmp 3) 7
          refine AnyO.StepI.mk rfl [] (by kernel_rfl) ?_
          intro D vs u hI h0 hC hp ac hb K hK
          obtain ⟨σ, hP, hW⟩ := hI
          have s3 : ac.tmps[3]?.getD undef = .pointer (some ⟨b3, 0, none⟩) := by rw [hb]; kernel_rfl
          rw [if_pos (AnyO.wanted_none rfl)]
          clear hb hp
          clear hC
          clear h0
          have HP := Lib.hid hP
          have HWq := Lib.hid hW
          clear hP hW
          go_simp
          have hP := HP.out
          have hW := HWq.out
          clear HP HWq
          exact hK _ _ (AnyO.InvG.step (g := σ) hP rfl hW)
        · -- 4: Op.load 9 (Operand.tmp 30)
          refine AnyO.StepI.mk rfl [3] (by kernel_rfl) ?_
          intro D vs u hI h0 hC hp ac hb K hK
          obtain ⟨σ, hP, hW⟩ := hI
          have s30 : ac.tmps[30]?.getD undef = .pointer (some ⟨b3, 38, none⟩) := by rw [hb]; exact (show _ = vs 3 by kernel_rfl).trans (show vs 3 = .pointer (some ⟨b3, 38, none⟩) from hP 3 (hp 3 (by decide)))
          rw [if_pos (AnyO.wanted_none rfl)]
          clear hb hp
          have hf5 : D 5 = false := by
            rcases hd : D 5 with _ | _
            · rfl
            · have hz := hC 5 hd 4 (by rw [show AnyO.pre _ 5 = [2, 4] from by kernel_rfl]; decide)
              rw [h0] at hz
              cases hz
          have hWb := hW.1 hf5
          obtain ⟨rc0, ⟨rc2, rc2'⟩, rc35, rc38, ⟨rc, rc'⟩, _⟩ := row_C (HRC2.out.keep hWb)
          rw [HN.out.2.2.1] at rc38
          clear hC
          clear h0
          have HP := Lib.hid hP
          have HWq := Lib.hid hW
          clear hP hW
          go_simp
          have hP := HP.out
          have hW := HWq.out
          clear HP HWq
          exact hK _ _ (AnyO.InvG.step (g := σ) hP rfl hW)
        · -- 5: Op.call { callee := Callee.value (Operand.func 64), args := 
          refine AnyO.StepI.mk rfl [2, 4] (by kernel_rfl) ?_
          intro D vs u hI h0 hC hp ac hb K hK
          obtain ⟨σ, hP, hW⟩ := hI
          have s29 : ac.tmps[29]?.getD undef = .pointer (some ⟨g, 33, none⟩) := by rw [hb]; exact (show _ = vs 2 by kernel_rfl).trans (show vs 2 = .pointer (some ⟨g, 33, none⟩) from hP 2 (hp 2 (by decide)))
          have s31 : ac.tmps[31]?.getD undef = .string txt := by rw [hb]; exact (show _ = vs 4 by kernel_rfl).trans (show vs 4 = .string txt from hP 4 (hp 4 (by decide)))
          rw [if_pos (AnyO.wanted_none rfl)]
          clear hb hp
          clear hC
          have HP := Lib.hid hP
          have HWq := Lib.hid hW
          clear hP hW
          go_simp
          have hP := HP.out
          have hW := HWq.out
          clear HP HWq
          go_at_call 64
          have hWb := hW.1 h0
          refine (write64 g x sz l false q v txt u (HR.out.keep hWb) (by have := HA.out; have := HN.out.1; have := HN.out.2.2.2; omega)).mono ?_
          rintro e w2 ⟨rfl, v9, hr9, ht9⟩
          rw [HN.out.2.2.2]
          refine hK _ _ (AnyO.InvG.ghost (g := σ) v9 hP ?_ rfl ?_)
          · intro j hj hq
            rcases j with _ | _ | _ | _ | _ | _ | j
            · exact hq
            · exact hq
            · exact hq
            · exact hq
            · exact hq
            · exact absurd (show D 5 = true from hj) (by rw [h0]; decide)
            · exact hq
          · exact ⟨fun h => (by cases h), fun _ => ⟨hr9, (Turn.of_below hWb g v).trans ht9⟩⟩
      · intro D vs u hI hD
        obtain ⟨σ, hP, hW⟩ := hI
        have e0 : vs 0 = .pointer (some ⟨g, 0, none⟩) := hP 0 (hD 0 (by decide))
        have e1 : vs 1 = .pointer (some ⟨g, 0, none⟩) := hP 1 (hD 1 (by decide))
        have e2 : vs 2 = .pointer (some ⟨g, 33, none⟩) := hP 2 (hD 2 (by decide))
        have e3 : vs 3 = .pointer (some ⟨b3, 38, none⟩) := hP 3 (hD 3 (by decide))
        have e4 : vs 4 = .string txt := hP 4 (hD 4 (by decide))
        have e5 : vs 5 = .tuple #[.int .i64 (m : Int), .nilIface] := hP 5 (hD 5 (by decide))
        have hz := hW.2 (hD 5 (by decide))
        replace hW := hz
        have HW := Lib.hid hW
        clear hW hP hD
        rw [puts_range [some 27, some 28, some 29, some 30, some 31, some 32] (by kernel_rfl)]
        simp only [putL, Nat.reduceAdd, e0, e1, e2, e3, e4, e5]
        clear e0 e1 e2 e3 e4 e5
        go_simp
        go_wp2
        go_ret
        exact ⟨rfl, σ, HW.out.1, (Turn.of_below HBW.out g v).trans HW.out.2⟩
set_option maxRecDepth 100000 in
set_option maxHeartbeats 1600000 in
theorem done55 (g : Nat) (x : Id) (sz : Int) (l : List UInt8) (q : Option Addr) (v : Value) (c : Cm) (w : World) (h : RecR g x sz l false q v w) (hs : (l.length : Int) = sz) : Calls Tryd.prog 55 #[.pointer (some ⟨g, 0, none⟩), vC c] w fun e w' => e = .returned (.int .i64 0) ∧ RecR g x sz l true q v w' ∧ Turn g v v w w' := by
  have HB0 := Lib.hid (below_alloc w (.cells (aC c) 45))
  have HRC := Lib.hid (Row.new w (cC c) 45)
  obtain ⟨W1, hW⟩ : ∃ W1, w.alloc (.cells (aC c) 45) = W1 := ⟨_, rfl⟩
  have HRC1 := Lib.hid (show Row W1 w.heap.size (cC c) 45 by rw [← hW]; exact HRC.out)
  have HBW := Lib.hid (show Below w.heap.size w W1 by rw [← hW]; exact HB0.out)
  have HR := Lib.hid (h.keep HBW.out)
  obtain ⟨b3, hb3⟩ : ∃ b3, b3 = w.heap.size := ⟨_, rfl⟩
  have HRC2 := Lib.hid (show Row W1 b3 (cC c) 45 by rw [hb3]; exact HRC1.out)
  obtain ⟨n, hn⟩ : ∃ n, l.length = n := ⟨_, rfl⟩
  rw [hn] at hs
  subst hs
  have HN := Lib.hid hn
  clear h hn
  go_enter Tryd.func55, Tryd.ntmps55
  go_wp2
  clear hW hb3
  refine AnyO.wp_anyI (by kernel_rfl) (by kernel_rfl) (AnyO.InvG (σ := Unit) (fun σ => AnyO.pvL [some (.pointer (some ⟨g, 0, none⟩)), some (.pointer (some ⟨g, 0, none⟩)), some (.pointer (some ⟨g, 33, none⟩)), some (.int .i64 (n : Int)), some (.pointer (some ⟨g, 0, none⟩)), some (.pointer (some ⟨g, 0, none⟩)), some (.pointer (some ⟨g, 32, none⟩)), some (.int .i64 (n : Int)), some (.bool false)]) (fun _ _ u => Below W1.heap.size W1 u)) (AnyO.InvG.start (g := ()) ((Below.refl _ _).drew)) ?_ ?_
  · intro i hi
    have hi2 : i = 0 ∨ i = 1 ∨ i = 2 ∨ i = 3 ∨ i = 4 ∨ i = 5 ∨ i = 6 ∨ i = 7 ∨ i = 8 := by simp only [List.size_toArray, List.length_cons, List.length_nil] at hi; omega
    clear hi
    rcases hi2 with rfl | rfl | rfl | rfl | rfl | rfl | rfl | rfl | rfl
    · -- 0: Op.move (Operand.tmp 0)
      refine AnyO.StepI.mk rfl [] (by kernel_rfl) ?_
      intro D vs u hI h0 hC hp ac hb K hK
      obtain ⟨σ, hP, hW⟩ := hI
      have s0 : ac.tmps[0]?.getD undef = .pointer (some ⟨g, 0, none⟩) := by rw [hb]; kernel_rfl
      rw [if_pos (AnyO.wanted_none rfl)]
      clear hb hp
      clear hC
      clear h0
      have HP := Lib.hid hP
      have HWq := Lib.hid hW
      clear hP hW
      go_simp
      have hP := HP.out
      have hW := HWq.out
      clear HP HWq
      exact hK _ _ (AnyO.InvG.step (g := σ) hP rfl hW)
    · -- 1: Op.nilCheck (Operand.tmp 5)
      refine AnyO.StepI.mk rfl [0] (by kernel_rfl) ?_
      intro D vs u hI h0 hC hp ac hb K hK
      obtain ⟨σ, hP, hW⟩ := hI
      have s5 : ac.tmps[5]?.getD undef = .pointer (some ⟨g, 0, none⟩) := by rw [hb]; exact (show _ = vs 0 by kernel_rfl).trans (show vs 0 = .pointer (some ⟨g, 0, none⟩) from hP 0 (hp 0 (by decide)))
      rw [if_pos (AnyO.wanted_none rfl)]
      clear hb hp
      clear hC
      clear h0
      have HP := Lib.hid hP
      have HWq := Lib.hid hW
      clear hP hW
      go_simp
      have hP := HP.out
      have hW := HWq.out
      clear HP HWq
      exact hK _ _ (AnyO.InvG.step (g := σ) hP rfl hW)
    · -- 2: Op.fieldAddr 113 (Operand.tmp 6) 2
      refine AnyO.StepI.mk rfl [1] (by kernel_rfl) ?_
      intro D vs u hI h0 hC hp ac hb K hK
      obtain ⟨σ, hP, hW⟩ := hI
      have s6 : ac.tmps[6]?.getD undef = .pointer (some ⟨g, 0, none⟩) := by rw [hb]; exact (show _ = vs 1 by kernel_rfl).trans (show vs 1 = .pointer (some ⟨g, 0, none⟩) from hP 1 (hp 1 (by decide)))
      rw [if_pos (AnyO.wanted_none rfl)]
      clear hb hp
      clear hC
      clear h0
      have HP := Lib.hid hP
      have HWq := Lib.hid hW
      clear hP hW
      go_simp
      have hP := HP.out
      have hW := HWq.out
      clear HP HWq
      exact hK _ _ (AnyO.InvG.step (g := σ) hP rfl hW)
    · -- 3: Op.call { callee := Callee.value (Operand.func 53), args := 
      refine AnyO.StepI.mk rfl [2] (by kernel_rfl) ?_
      intro D vs u hI h0 hC hp ac hb K hK
      obtain ⟨σ, hP, hW⟩ := hI
      have s7 : ac.tmps[7]?.getD undef = .pointer (some ⟨g, 33, none⟩) := by rw [hb]; exact (show _ = vs 2 by kernel_rfl).trans (show vs 2 = .pointer (some ⟨g, 33, none⟩) from hP 2 (hp 2 (by decide)))
      rw [if_pos (AnyO.wanted_none rfl)]
      clear hb hp
      clear hC
      clear h0
      have HP := Lib.hid hP
      have HWq := Lib.hid hW
      clear hP hW
      go_simp
      have hP := HP.out
      have hW := HWq.out
      clear HP HWq
      go_at_call 53
      refine (len53 g x _ l false q v u (HR.out.keep hW)).mono ?_
      rintro e w2 ⟨rfl, rfl⟩
      rw [HN.out]
      exact hK _ _ (AnyO.InvG.step (g := σ) hP rfl hW)
    · -- 4: Op.move (Operand.tmp 0)
      refine AnyO.StepI.mk rfl [] (by kernel_rfl) ?_
      intro D vs u hI h0 hC hp ac hb K hK
      obtain ⟨σ, hP, hW⟩ := hI
      have s0 : ac.tmps[0]?.getD undef = .pointer (some ⟨g, 0, none⟩) := by rw [hb]; kernel_rfl
      rw [if_pos (AnyO.wanted_none rfl)]
      clear hb hp
      clear hC
      clear h0
      have HP := Lib.hid hP
      have HWq := Lib.hid hW
      clear hP hW
      go_simp
      have hP := HP.out
      have hW := HWq.out
      clear HP HWq
      exact hK _ _ (AnyO.InvG.step (g := σ) hP rfl hW)
    · -- 5: Op.nilCheck (Operand.tmp 9)
      refine AnyO.StepI.mk rfl [4] (by kernel_rfl) ?_
      intro D vs u hI h0 hC hp ac hb K hK
      obtain ⟨σ, hP, hW⟩ := hI
      have s9 : ac.tmps[9]?.getD undef = .pointer (some ⟨g, 0, none⟩) := by rw [hb]; exact (show _ = vs 4 by kernel_rfl).trans (show vs 4 = .pointer (some ⟨g, 0, none⟩) from hP 4 (hp 4 (by decide)))
      rw [if_pos (AnyO.wanted_none rfl)]
      clear hb hp
      clear hC
      clear h0
      have HP := Lib.hid hP
      have HWq := Lib.hid hW
      clear hP hW
      go_simp
      have hP := HP.out
      have hW := HWq.out
      clear HP HWq
      exact hK _ _ (AnyO.InvG.step (g := σ) hP rfl hW)
    · -- 6: Op.fieldAddr 113 (Operand.tmp 10) 1
      refine AnyO.StepI.mk rfl [5] (by kernel_rfl) ?_
      intro D vs u hI h0 hC hp ac hb K hK
      obtain ⟨σ, hP, hW⟩ := hI
      have s10 : ac.tmps[10]?.getD undef = .pointer (some ⟨g, 0, none⟩) := by rw [hb]; exact (show _ = vs 5 by kernel_rfl).trans (show vs 5 = .pointer (some ⟨g, 0, none⟩) from hP 5 (hp 5 (by decide)))
      rw [if_pos (AnyO.wanted_none rfl)]
      clear hb hp
      clear hC
      clear h0
      have HP := Lib.hid hP
      have HWq := Lib.hid hW
      clear hP hW
      go_simp
      have hP := HP.out
      have hW := HWq.out
      clear HP HWq
      exact hK _ _ (AnyO.InvG.step (g := σ) hP rfl hW)
    · -- 7: Op.load 3 (Operand.tmp 11)
      refine AnyO.StepI.mk rfl [6] (by kernel_rfl) ?_
      intro D vs u hI h0 hC hp ac hb K hK
      obtain ⟨σ, hP, hW⟩ := hI
      have s11 : ac.tmps[11]?.getD undef = .pointer (some ⟨g, 32, none⟩) := by rw [hb]; exact (show _ = vs 6 by kernel_rfl).trans (show vs 6 = .pointer (some ⟨g, 32, none⟩) from hP 6 (hp 6 (by decide)))
      rw [if_pos (AnyO.wanted_none rfl)]
      clear hb hp
      obtain ⟨_, rr32, _⟩ := row_V (HR.out.keep hW).row
      clear hC
      clear h0
      have HP := Lib.hid hP
      have HWq := Lib.hid hW
      clear hP hW
      go_simp
      have hP := HP.out
      have hW := HWq.out
      clear HP HWq
      exact hK _ _ (AnyO.InvG.step (g := σ) hP rfl hW)
    · -- 8: Op.binOp BinOp.lss 3 (Operand.tmp 8) (Operand.tmp 12) 3
      refine AnyO.StepI.mk rfl [3, 7] (by kernel_rfl) ?_
      intro D vs u hI h0 hC hp ac hb K hK
      obtain ⟨σ, hP, hW⟩ := hI
      have s8 : ac.tmps[8]?.getD undef = .int .i64 (n : Int) := by rw [hb]; exact (show _ = vs 3 by kernel_rfl).trans (show vs 3 = .int .i64 (n : Int) from hP 3 (hp 3 (by decide)))
      have s12 : ac.tmps[12]?.getD undef = .int .i64 (n : Int) := by rw [hb]; exact (show _ = vs 7 by kernel_rfl).trans (show vs 7 = .int .i64 (n : Int) from hP 7 (hp 7 (by decide)))
      rw [if_pos (AnyO.wanted_none rfl)]
      clear hb hp
      clear hC
      clear h0
      have HP := Lib.hid hP
      have HWq := Lib.hid hW
      clear hP hW
      go_simp
      have hP := HP.out
      have hW := HWq.out
      clear HP HWq
      exact hK _ _ (AnyO.InvG.step (g := σ) hP rfl hW)
  · intro D vs u hI hD
    obtain ⟨σ, hP, hW⟩ := hI
    have e0 : vs 0 = .pointer (some ⟨g, 0, none⟩) := hP 0 (hD 0 (by decide))
    have e1 : vs 1 = .pointer (some ⟨g, 0, none⟩) := hP 1 (hD 1 (by decide))
    have e2 : vs 2 = .pointer (some ⟨g, 33, none⟩) := hP 2 (hD 2 (by decide))
    have e3 : vs 3 = .int .i64 (n : Int) := hP 3 (hD 3 (by decide))
    have e4 : vs 4 = .pointer (some ⟨g, 0, none⟩) := hP 4 (hD 4 (by decide))
    have e5 : vs 5 = .pointer (some ⟨g, 0, none⟩) := hP 5 (hD 5 (by decide))
    have e6 : vs 6 = .pointer (some ⟨g, 32, none⟩) := hP 6 (hD 6 (by decide))
    have e7 : vs 7 = .int .i64 (n : Int) := hP 7 (hD 7 (by decide))
    have e8 : vs 8 = .bool false := hP 8 (hD 8 (by decide))
    have HW := Lib.hid hW
    clear hW hP hD
    rw [puts_range [some 5, some 6, some 7, some 8, some 9, some 10, some 11, some 12, some 13] (by kernel_rfl)]
    simp only [putL, Nat.reduceAdd, e0, e1, e2, e3, e4, e5, e6, e7, e8]
    clear e0 e1 e2 e3 e4 e5 e6 e7 e8
    have hk := HR.out.keep HW.out
    obtain ⟨_, _, _, g35, _⟩ := row_V hk.row
    have f35 := hk.row.fz 35
    have HK := Lib.hid hk
    clear hk
    go_simp
    go_wp2
    go_ret
    refine ⟨rfl, ⟨?_, HK.out.own.kept (row := some g) ⟨rfl, rfl, rfl, by simp [World.setCell], fun k _ hk => heap_set_other u g 35 _ k (fun e => hk (by rw [e]))⟩ (Or.inr HK.out.ne), HK.out.ne, HK.out.q⟩, ((Turn.of_below HBW.out g v).trans (Turn.of_below HW.out g v)).trans (Turn.set u g 35 _ v)⟩
    have r := HK.out.row.set 35 (.bool true)
    rw [cV_set35] at r
    exact r
end
section
open Go.RowKit
def lFn (g : Nat) : List Value := [.nilFunc, .nilFunc, .nilFunc, .nilFunc, .nilFunc, .nilFunc, .nilFunc, .func (.func 54) #[.pointer (some ⟨g, 0, none⟩)] #[], .func (.func 55) #[.pointer (some ⟨g, 0, none⟩)] #[]]
def aFn (g : Nat) : Array Value := (lFn g).toArray
def aNf : Array Value := #[.nilFunc, .nilFunc, .nilFunc, .nilFunc, .nilFunc, .nilFunc, .nilFunc, .nilFunc, .nilFunc]
theorem size114 : (Tryd.prog.info? 114).map (·.size) = some 9 := by kernel_rfl
section
variable (w : World) (v : Value)
@[go_sem ↓] theorem alloc114 (h : Bool) : Instr.alloc 114 h v = alA 114 h v := rfl
@[go_sem] theorem run_al114 : (alA 114 true (.tuple #[])).run Tryd.prog w = .ok (.pointer (some ⟨w.heap.size, 0, none⟩)) (w.alloc (.cells aNf 114)) := by kernel_rfl
@[go_sem ↓] theorem store114 (u : Value) : Instr.storeAt 114 v u = stA 114 v u := rfl
@[go_sem] theorem run_st114 (k g : Nat) : (stA 114 (.pointer (some ⟨k, 0, none⟩)) (.agg #[.nilFunc, .nilFunc, .nilFunc, .nilFunc, .nilFunc, .nilFunc, .nilFunc, .func (.func 54) #[.pointer (some ⟨g, 0, none⟩)] #[], .func (.func 55) #[.pointer (some ⟨g, 0, none⟩)] #[]])).run Tryd.prog w = if rowOk w k 9 = true then .ok () (w.setRow k (aFn g)) else (stB 114 (.pointer (some ⟨k, 0, none⟩)) (.agg #[.nilFunc, .nilFunc, .nilFunc, .nilFunc, .nilFunc, .nilFunc, .nilFunc, .func (.func 54) #[.pointer (some ⟨g, 0, none⟩)] #[], .func (.func 55) #[.pointer (some ⟨g, 0, none⟩)] #[]])).run Tryd.prog w := run_stA_if w 114 k _ 9 size114 (by simp) (by simp [Value.oneCell'])
@[go_sem] theorem rowOk_n114 (ty : TypeId) (g : Nat) (hg : g = w.heap.size) : rowOk (w.alloc (.cells aNf ty)) g 9 = true := rowOk_new w _ ty g 9 hg rfl
end
set_option maxRecDepth 100000 in
set_option maxHeartbeats 1600000 in
theorem hear35_data (g : Nat) (x : Id) (sz : Int) (l : List UInt8) (q : Option Addr) (v : Value) (c : Cm) (w : World) (h : RecR g x sz l false q v w) (hv : c.verb = 7) (hi : c.id = x) (hfr : c.from_ = (l.length : Int)) (hs : (l.length : Int) + (c.text.size : Int) ≤ sz) (hb : sz ≤ 65536) : Calls Tryd.prog 35 #[.pointer (some ⟨g, 0, none⟩), vC c] w fun e w' => e = .returned (.int .i64 0) ∧ ∃ v', RecR g x sz (l ++ c.text.data.toList) false (some ⟨g, 33, none⟩) v' w' ∧ Turn g v v' w w' := by
  have HB0 := Lib.hid (below_alloc w (.cells (aC c) 45))
  have HRC := Lib.hid (Row.new w (cC c) 45)
  obtain ⟨W1, hW⟩ : ∃ W1, w.alloc (.cells (aC c) 45) = W1 := ⟨_, rfl⟩
  have HRC1 := Lib.hid (show Row W1 w.heap.size (cC c) 45 by rw [← hW]; exact HRC.out)
  have HBW := Lib.hid (show Below w.heap.size w W1 by rw [← hW]; exact HB0.out)
  have HR := Lib.hid (h.keep HBW.out)
  obtain ⟨b3, hb3⟩ : ∃ b3, b3 = w.heap.size := ⟨_, rfl⟩
  have HRC2 := Lib.hid (show Row W1 b3 (cC c) 45 by rw [hb3]; exact HRC1.out)
  have HA := Lib.hid (And.intro hfr (And.intro hs (And.intro hb (And.intro hv hi))))
  obtain ⟨_, _, _, s35, _⟩ := row_V HR.out.row
  obtain ⟨t0, _, _, _, _, _⟩ := row_C HRC1.out
  rw [hv] at t0
  clear h hv hi hfr hs hb
  go_enter Tryd.func35, Tryd.ntmps35
  go_wp2
  rw [← hb3]
  clear hW hb3 s35 t0
  refine AnyO.wp_anyI (by kernel_rfl) (by kernel_rfl) (AnyO.InvG (σ := Unit) (fun σ => AnyO.pvL [some (.pointer (some ⟨b3, 2, none⟩)), some (vI x), some (.pointer (some ⟨g, 0, none⟩)), some (.pointer (some ⟨g, 0, none⟩)), some (.pointer (some ⟨g, 0, none⟩)), some (vI x), some (.bool false), some (.bool false)]) (fun _ _ u => Below W1.heap.size W1 u)) (AnyO.InvG.start (g := ()) ((Below.refl _ _).drew)) ?_ ?_
  · intro i hi
    have hi2 : i = 0 ∨ i = 1 ∨ i = 2 ∨ i = 3 ∨ i = 4 ∨ i = 5 ∨ i = 6 ∨ i = 7 := by simp only [List.size_toArray, List.length_cons, List.length_nil] at hi; omega
    clear hi
    rcases hi2 with rfl | rfl | rfl | rfl | rfl | rfl | rfl | rfl
    · -- 0: Op.fieldAddr 45 (Operand.tmp 3) 2
      refine AnyO.StepI.mk rfl [] (by kernel_rfl) ?_
      intro D vs u hI h0 hC hp ac hb K hK
      obtain ⟨σ, hP, hW⟩ := hI
      have s3 : ac.tmps[3]?.getD undef = .pointer (some ⟨b3, 0, none⟩) := by rw [hb]; kernel_rfl
      rw [if_pos (AnyO.wanted_none rfl)]
      clear hb hp
      clear hC
      clear h0
      have HP := Lib.hid hP
      have HWq := Lib.hid hW
      clear hP hW
      go_simp
      have hP := HP.out
      have hW := HWq.out
      clear HP HWq
      exact hK _ _ (AnyO.InvG.step (g := σ) hP rfl hW)
    · -- 1: Op.load 40 (Operand.tmp 24)
      refine AnyO.StepI.mk rfl [0] (by kernel_rfl) ?_
      intro D vs u hI h0 hC hp ac hb K hK
      obtain ⟨σ, hP, hW⟩ := hI
      have s24 : ac.tmps[24]?.getD undef = .pointer (some ⟨b3, 2, none⟩) := by rw [hb]; exact (show _ = vs 0 by kernel_rfl).trans (show vs 0 = .pointer (some ⟨b3, 2, none⟩) from hP 0 (hp 0 (by decide)))
      rw [if_pos (AnyO.wanted_none rfl)]
      clear hb hp
      obtain ⟨rc0, ⟨rc2, rc2'⟩, rc35, rc38, ⟨rc, rc'⟩, _⟩ := row_C (HRC2.out.keep hW)
      rw [HA.out.2.2.2.2] at rc2'
      clear hC
      clear h0
      have HP := Lib.hid hP
      have HWq := Lib.hid hW
      clear hP hW
      go_simp
      have hP := HP.out
      have hW := HWq.out
      clear HP HWq
      exact hK _ _ (AnyO.InvG.step (g := σ) hP rfl hW)
    · -- 2: Op.move (Operand.tmp 0)
      refine AnyO.StepI.mk rfl [] (by kernel_rfl) ?_
      intro D vs u hI h0 hC hp ac hb K hK
      obtain ⟨σ, hP, hW⟩ := hI
      have s0 : ac.tmps[0]?.getD undef = .pointer (some ⟨g, 0, none⟩) := by rw [hb]; kernel_rfl
      rw [if_pos (AnyO.wanted_none rfl)]
      clear hb hp
      clear hC
      clear h0
      have HP := Lib.hid hP
      have HWq := Lib.hid hW
      clear hP hW
      go_simp
      have hP := HP.out
      have hW := HWq.out
      clear HP HWq
      exact hK _ _ (AnyO.InvG.step (g := σ) hP rfl hW)
    · -- 3: Op.nilCheck (Operand.tmp 26)
      refine AnyO.StepI.mk rfl [2] (by kernel_rfl) ?_
      intro D vs u hI h0 hC hp ac hb K hK
      obtain ⟨σ, hP, hW⟩ := hI
      have s26 : ac.tmps[26]?.getD undef = .pointer (some ⟨g, 0, none⟩) := by rw [hb]; exact (show _ = vs 2 by kernel_rfl).trans (show vs 2 = .pointer (some ⟨g, 0, none⟩) from hP 2 (hp 2 (by decide)))
      rw [if_pos (AnyO.wanted_none rfl)]
      clear hb hp
      clear hC
      clear h0
      have HP := Lib.hid hP
      have HWq := Lib.hid hW
      clear hP hW
      go_simp
      have hP := HP.out
      have hW := HWq.out
      clear HP HWq
      exact hK _ _ (AnyO.InvG.step (g := σ) hP rfl hW)
    · -- 4: Op.fieldAddr 113 (Operand.tmp 27) 0
      refine AnyO.StepI.mk rfl [3] (by kernel_rfl) ?_
      intro D vs u hI h0 hC hp ac hb K hK
      obtain ⟨σ, hP, hW⟩ := hI
      have s27 : ac.tmps[27]?.getD undef = .pointer (some ⟨g, 0, none⟩) := by rw [hb]; exact (show _ = vs 3 by kernel_rfl).trans (show vs 3 = .pointer (some ⟨g, 0, none⟩) from hP 3 (hp 3 (by decide)))
      rw [if_pos (AnyO.wanted_none rfl)]
      clear hb hp
      clear hC
      clear h0
      have HP := Lib.hid hP
      have HWq := Lib.hid hW
      clear hP hW
      go_simp
      have hP := HP.out
      have hW := HWq.out
      clear HP HWq
      exact hK _ _ (AnyO.InvG.step (g := σ) hP rfl hW)
    · -- 5: Op.load 40 (Operand.tmp 28)
      refine AnyO.StepI.mk rfl [4] (by kernel_rfl) ?_
      intro D vs u hI h0 hC hp ac hb K hK
      obtain ⟨σ, hP, hW⟩ := hI
      have s28 : ac.tmps[28]?.getD undef = .pointer (some ⟨g, 0, none⟩) := by rw [hb]; exact (show _ = vs 4 by kernel_rfl).trans (show vs 4 = .pointer (some ⟨g, 0, none⟩) from hP 4 (hp 4 (by decide)))
      rw [if_pos (AnyO.wanted_none rfl)]
      clear hb hp
      obtain ⟨⟨r0, r0'⟩, _⟩ := row_V (HR.out.keep hW).row
      clear hC
      clear h0
      have HP := Lib.hid hP
      have HWq := Lib.hid hW
      clear hP hW
      go_simp
      have hP := HP.out
      have hW := HWq.out
      clear HP HWq
      exact hK _ _ (AnyO.InvG.step (g := σ) hP rfl hW)
    · -- 6: Op.binOp BinOp.neq 40 (Operand.tmp 25) (Operand.tmp 29) 40
      refine AnyO.StepI.mk rfl [1, 5] (by kernel_rfl) ?_
      intro D vs u hI h0 hC hp ac hb K hK
      obtain ⟨σ, hP, hW⟩ := hI
      have s25 : ac.tmps[25]?.getD undef = vI x := by rw [hb]; exact (show _ = vs 1 by kernel_rfl).trans (show vs 1 = vI x from hP 1 (hp 1 (by decide)))
      have s29 : ac.tmps[29]?.getD undef = vI x := by rw [hb]; exact (show _ = vs 5 by kernel_rfl).trans (show vs 5 = vI x from hP 5 (hp 5 (by decide)))
      rw [if_pos (AnyO.wanted_none rfl)]
      clear hb hp
      clear hC
      clear h0
      have HP := Lib.hid hP
      have HWq := Lib.hid hW
      clear hP hW
      go_simp
      have hP := HP.out
      have hW := HWq.out
      clear HP HWq
      exact hK _ _ (AnyO.InvG.step (g := σ) hP rfl hW)
    · -- 7: Op.assign (Operand.tmp 30)
      refine AnyO.StepI.mk rfl [6] (by kernel_rfl) ?_
      intro D vs u hI h0 hC hp ac hb K hK
      obtain ⟨σ, hP, hW⟩ := hI
      have s30 : ac.tmps[30]?.getD undef = .bool false := by rw [hb]; exact (show _ = vs 6 by kernel_rfl).trans (show vs 6 = .bool false from hP 6 (hp 6 (by decide)))
      rw [if_pos (AnyO.wanted_none rfl)]
      clear hb hp
      clear hC
      clear h0
      have HP := Lib.hid hP
      have HWq := Lib.hid hW
      clear hP hW
      go_simp
      have hP := HP.out
      have hW := HWq.out
      clear HP HWq
      exact hK _ _ (AnyO.InvG.step (g := σ) hP rfl hW)
  · intro D vs u hI hD
    obtain ⟨σ, hP, hW⟩ := hI
    have e0 : vs 0 = .pointer (some ⟨b3, 2, none⟩) := hP 0 (hD 0 (by decide))
    have e1 : vs 1 = vI x := hP 1 (hD 1 (by decide))
    have e2 : vs 2 = .pointer (some ⟨g, 0, none⟩) := hP 2 (hD 2 (by decide))
    have e3 : vs 3 = .pointer (some ⟨g, 0, none⟩) := hP 3 (hD 3 (by decide))
    have e4 : vs 4 = .pointer (some ⟨g, 0, none⟩) := hP 4 (hD 4 (by decide))
    have e5 : vs 5 = vI x := hP 5 (hD 5 (by decide))
    have e6 : vs 6 = .bool false := hP 6 (hD 6 (by decide))
    have e7 : vs 7 = .bool false := hP 7 (hD 7 (by decide))
    have HW := Lib.hid hW
    clear hW hP hD
    rw [puts_range [some 24, some 25, some 26, some 27, some 28, some 29, some 30, some 23] (by kernel_rfl)]
    simp only [putL, Nat.reduceAdd, e0, e1, e2, e3, e4, e5, e6, e7]
    clear e0 e1 e2 e3 e4 e5 e6 e7
    go_simp
    go_wp2
    have HRF0 := Lib.hid (Row.new u (lFn g) 114)
    obtain ⟨b5, hb5⟩ : ∃ b5, b5 = u.heap.size := ⟨_, rfl⟩
    obtain ⟨U, hU⟩ : ∃ U, u.alloc (.cells (aFn g) 114) = U := ⟨_, rfl⟩
    have HRF := Lib.hid (show Row U b5 (lFn g) 114 by rw [← hU, hb5]; exact HRF0.out)
    have HBU := Lib.hid (show Below W1.heap.size W1 U by rw [← hU]; exact Below.step HW.out (below_alloc _ _))
    rw [hU, ← hb5]
    clear hU hb5 HRF0
    refine AnyO.wp_anyI (by kernel_rfl) (by kernel_rfl) (AnyO.InvG (σ := Value) (fun σ => AnyO.pvL [some (.pointer (some ⟨b3, 0, none⟩)), some (.int .i64 7), some (.pointer (some ⟨b5, 7, none⟩)), some (.func (.func 54) #[.pointer (some ⟨g, 0, none⟩)] #[]), some (vC c), some (.int .i64 0), some (.int .i64 0)]) (fun (σ : Value) D u => (D 5 = false → Below U.heap.size U u) ∧ (D 5 = true → RecR g x sz (l ++ c.text.data.toList) false (some ⟨g, 33, none⟩) σ u ∧ Turn g v σ U u))) (AnyO.InvG.start (g := v) (⟨fun _ => (Below.refl _ _).drew, fun h => by cases h⟩)) ?_ ?_
    · intro i hi
      have hi2 : i = 0 ∨ i = 1 ∨ i = 2 ∨ i = 3 ∨ i = 4 ∨ i = 5 ∨ i = 6 := by simp only [List.size_toArray, List.length_cons, List.length_nil] at hi; omega
      clear hi
      rcases hi2 with rfl | rfl | rfl | rfl | rfl | rfl | rfl
      · -- 0: Op.fieldAddr 45 (Operand.tmp 3) 0
        refine AnyO.StepI.mk rfl [] (by kernel_rfl) ?_
        intro D vs u hI h0 hC hp ac hb K hK
        obtain ⟨σ, hP, hW⟩ := hI
        have s3 : ac.tmps[3]?.getD undef = .pointer (some ⟨b3, 0, none⟩) := by rw [hb]; kernel_rfl
        rw [if_pos (AnyO.wanted_none rfl)]
        clear hb hp
        clear hC
        clear h0
        have HP := Lib.hid hP
        have HWq := Lib.hid hW
        clear hP hW
        go_simp
        have hP := HP.out
        have hW := HWq.out
        clear HP HWq
        exact hK _ _ (AnyO.InvG.step (g := σ) hP rfl hW)
      · -- 1: Op.load 3 (Operand.tmp 36)
        refine AnyO.StepI.mk rfl [0] (by kernel_rfl) ?_
        intro D vs u hI h0 hC hp ac hb K hK
        obtain ⟨σ, hP, hW⟩ := hI
        have s36 : ac.tmps[36]?.getD undef = .pointer (some ⟨b3, 0, none⟩) := by rw [hb]; exact (show _ = vs 0 by kernel_rfl).trans (show vs 0 = .pointer (some ⟨b3, 0, none⟩) from hP 0 (hp 0 (by decide)))
        rw [if_pos (AnyO.wanted_none rfl)]
        clear hb hp
        have hq3 : D 3 = false := by
          rcases hd : D 3 with _ | _
          · rfl
          · have hz2 := hC 3 hd 2 (by rw [show AnyO.pre _ 3 = [2] from by kernel_rfl]; decide)
            have hz := hC 2 hz2 1 (by rw [show AnyO.pre _ 2 = [1] from by kernel_rfl]; decide)
            rw [h0] at hz
            cases hz
        have hf5 : D 5 = false := by
          rcases hd : D 5 with _ | _
          · rfl
          · have hz := hC 5 hd 3 (by rw [show AnyO.pre _ 5 = [3, 4] from by kernel_rfl]; decide)
            rw [hq3] at hz
            cases hz
        have hWb := hW.1 hf5
        obtain ⟨rc0, ⟨rc2, rc2'⟩, rc35, rc38, ⟨rc, rc'⟩, _⟩ := row_C ((HRC2.out.keep HBU.out).keep hWb)
        rw [HA.out.2.2.2.1] at rc0
        clear hC
        clear h0
        have HP := Lib.hid hP
        have HWq := Lib.hid hW
        clear hP hW
        go_simp
        have hP := HP.out
        have hW := HWq.out
        clear HP HWq
        exact hK _ _ (AnyO.InvG.step (g := σ) hP rfl hW)
      · -- 2: Op.indexAddr 114 (Operand.tmp 5) (Operand.tmp 37)
        refine AnyO.StepI.mk rfl [1] (by kernel_rfl) ?_
        intro D vs u hI h0 hC hp ac hb K hK
        obtain ⟨σ, hP, hW⟩ := hI
        have s5 : ac.tmps[5]?.getD undef = .pointer (some ⟨b5, 0, none⟩) := by rw [hb]; kernel_rfl
        have s37 : ac.tmps[37]?.getD undef = .int .i64 7 := by rw [hb]; exact (show _ = vs 1 by kernel_rfl).trans (show vs 1 = .int .i64 7 from hP 1 (hp 1 (by decide)))
        rw [if_pos (AnyO.wanted_none rfl)]
        clear hb hp
        clear hC
        clear h0
        have HP := Lib.hid hP
        have HWq := Lib.hid hW
        clear hP hW
        go_simp
        have hP := HP.out
        have hW := HWq.out
        clear HP HWq
        exact hK _ _ (AnyO.InvG.step (g := σ) hP rfl hW)
      · -- 3: Op.load 48 (Operand.tmp 38)
        refine AnyO.StepI.mk rfl [2] (by kernel_rfl) ?_
        intro D vs u hI h0 hC hp ac hb K hK
        obtain ⟨σ, hP, hW⟩ := hI
        have s38 : ac.tmps[38]?.getD undef = .pointer (some ⟨b5, 7, none⟩) := by rw [hb]; exact (show _ = vs 2 by kernel_rfl).trans (show vs 2 = .pointer (some ⟨b5, 7, none⟩) from hP 2 (hp 2 (by decide)))
        rw [if_pos (AnyO.wanted_none rfl)]
        clear hb hp
        have hf5 : D 5 = false := by
          rcases hd : D 5 with _ | _
          · rfl
          · have hz := hC 5 hd 3 (by rw [show AnyO.pre _ 5 = [3, 4] from by kernel_rfl]; decide)
            rw [h0] at hz
            cases hz
        have hWb := hW.1 hf5
        have rr := (HRF.out.keep hWb).cell 7
        rw [show (lFn g)[7]? = some (.func (.func 54) #[.pointer (some ⟨g, 0, none⟩)] #[]) from rfl] at rr
        clear hC
        clear h0
        have HP := Lib.hid hP
        have HWq := Lib.hid hW
        clear hP hW
        go_simp
        have hP := HP.out
        have hW := HWq.out
        clear HP HWq
        exact hK _ _ (AnyO.InvG.step (g := σ) hP rfl hW)
      · -- 4: Op.load 45 (Operand.tmp 3)
        refine AnyO.StepI.mk rfl [] (by kernel_rfl) ?_
        intro D vs u hI h0 hC hp ac hb K hK
        obtain ⟨σ, hP, hW⟩ := hI
        have s3 : ac.tmps[3]?.getD undef = .pointer (some ⟨b3, 0, none⟩) := by rw [hb]; kernel_rfl
        rw [if_pos (AnyO.wanted_none rfl)]
        clear hb hp
        have hf5 : D 5 = false := by
          rcases hd : D 5 with _ | _
          · rfl
          · have hz := hC 5 hd 4 (by rw [show AnyO.pre _ 5 = [3, 4] from by kernel_rfl]; decide)
            rw [h0] at hz
            cases hz
        have hWb := hW.1 hf5
        obtain ⟨rc0, ⟨rc2, rc2'⟩, rc35, rc38, ⟨rc, rc'⟩, _⟩ := row_C ((HRC2.out.keep HBU.out).keep hWb)
        clear hC
        clear h0
        have HP := Lib.hid hP
        have HWq := Lib.hid hW
        clear hP hW
        go_simp
        have hP := HP.out
        have hW := HWq.out
        clear HP HWq
        exact hK _ _ (AnyO.InvG.step (g := σ) hP rfl hW)
      · -- 5: Op.call { callee := Callee.value (Operand.tmp 39), args := #
        refine AnyO.StepI.mk rfl [3, 4] (by kernel_rfl) ?_
        intro D vs u hI h0 hC hp ac hb K hK
        obtain ⟨σ, hP, hW⟩ := hI
        have s39 : ac.tmps[39]?.getD undef = .func (.func 54) #[.pointer (some ⟨g, 0, none⟩)] #[] := by rw [hb]; exact (show _ = vs 3 by kernel_rfl).trans (show vs 3 = .func (.func 54) #[.pointer (some ⟨g, 0, none⟩)] #[] from hP 3 (hp 3 (by decide)))
        have s40 : ac.tmps[40]?.getD undef = vC c := by rw [hb]; exact (show _ = vs 4 by kernel_rfl).trans (show vs 4 = vC c from hP 4 (hp 4 (by decide)))
        rw [if_pos (AnyO.wanted_none rfl)]
        clear hb hp
        clear hC
        have HP := Lib.hid hP
        have HWq := Lib.hid hW
        clear hP hW
        go_simp
        have hP := HP.out
        have hW := HWq.out
        clear HP HWq
        have hWb := hW.1 h0
        go_at_call 54
        refine (data54 g x sz l q v c u ((HR.out.keep HBU.out).keep hWb) HA.out.1 HA.out.2.1 HA.out.2.2.1).mono ?_
        rintro e w2 ⟨rfl, v9, hr9, ht9⟩
        refine hK _ _ (AnyO.InvG.ghost (g := σ) v9 hP ?_ rfl ?_)
        · intro j hj hq
          rcases j with _ | _ | _ | _ | _ | _ | _ | j
          · exact hq
          · exact hq
          · exact hq
          · exact hq
          · exact hq
          · exact absurd (show D 5 = true from hj) (by rw [h0]; decide)
          · exact hq
          · exact hq
        · exact ⟨fun h => (by cases h), fun _ => ⟨hr9, (Turn.of_below hWb g v).trans ht9⟩⟩
      · -- 6: Op.assign (Operand.tmp 41)
        refine AnyO.StepI.mk rfl [5, 5, 0, 1, 2, 3, 4, 5] (by kernel_rfl) ?_
        intro D vs u hI h0 hC hp ac hb K hK
        obtain ⟨σ, hP, hW⟩ := hI
        have s41 : ac.tmps[41]?.getD undef = .int .i64 0 := by rw [hb]; exact (show _ = vs 5 by kernel_rfl).trans (show vs 5 = .int .i64 0 from hP 5 (hp 5 (by decide)))
        rw [if_pos (AnyO.wanted_none rfl)]
        clear hb hp
        clear hC
        clear h0
        have HP := Lib.hid hP
        have HWq := Lib.hid hW
        clear hP hW
        go_simp
        have hP := HP.out
        have hW := HWq.out
        clear HP HWq
        exact hK _ _ (AnyO.InvG.step (g := σ) hP rfl hW)
    · intro D vs u hI hD
      obtain ⟨σ, hP, hW⟩ := hI
      have e0 : vs 0 = .pointer (some ⟨b3, 0, none⟩) := hP 0 (hD 0 (by decide))
      have e1 : vs 1 = .int .i64 7 := hP 1 (hD 1 (by decide))
      have e2 : vs 2 = .pointer (some ⟨b5, 7, none⟩) := hP 2 (hD 2 (by decide))
      have e3 : vs 3 = .func (.func 54) #[.pointer (some ⟨g, 0, none⟩)] #[] := hP 3 (hD 3 (by decide))
      have e4 : vs 4 = vC c := hP 4 (hD 4 (by decide))
      have e5 : vs 5 = .int .i64 0 := hP 5 (hD 5 (by decide))
      have e6 : vs 6 = .int .i64 0 := hP 6 (hD 6 (by decide))
      have hz := hW.2 (hD 5 (by decide))
      replace hW := hz
      have HW := Lib.hid hW
      clear hW hP hD
      rw [puts_range [some 36, some 37, some 38, some 39, some 40, some 41, some 4] (by kernel_rfl)]
      simp only [putL, Nat.reduceAdd, e0, e1, e2, e3, e4, e5, e6]
      clear e0 e1 e2 e3 e4 e5 e6
      go_simp
      go_wp2
      go_ret
      exact ⟨rfl, σ, HW.out.1, ((Turn.of_below HBW.out g v).trans (Turn.of_below HBU.out g v)).trans HW.out.2⟩
set_option maxRecDepth 100000 in
set_option maxHeartbeats 1600000 in
theorem hear35_done (g : Nat) (x : Id) (sz : Int) (l : List UInt8) (q : Option Addr) (v : Value) (c : Cm) (w : World) (h : RecR g x sz l false q v w) (hv : c.verb = 8) (hi : c.id = x) (hs : (l.length : Int) = sz) : Calls Tryd.prog 35 #[.pointer (some ⟨g, 0, none⟩), vC c] w fun e w' => e = .returned (.int .i64 0) ∧ RecR g x sz l true q v w' ∧ Turn g v v w w' := by
  have HB0 := Lib.hid (below_alloc w (.cells (aC c) 45))
  have HRC := Lib.hid (Row.new w (cC c) 45)
  obtain ⟨W1, hW⟩ : ∃ W1, w.alloc (.cells (aC c) 45) = W1 := ⟨_, rfl⟩
  have HRC1 := Lib.hid (show Row W1 w.heap.size (cC c) 45 by rw [← hW]; exact HRC.out)
  have HBW := Lib.hid (show Below w.heap.size w W1 by rw [← hW]; exact HB0.out)
  have HR := Lib.hid (h.keep HBW.out)
  obtain ⟨b3, hb3⟩ : ∃ b3, b3 = w.heap.size := ⟨_, rfl⟩
  have HRC2 := Lib.hid (show Row W1 b3 (cC c) 45 by rw [hb3]; exact HRC1.out)
  have HA := Lib.hid (And.intro hs (And.intro hv hi))
  obtain ⟨_, _, _, s35, _⟩ := row_V HR.out.row
  obtain ⟨t0, _, _, _, _, _⟩ := row_C HRC1.out
  rw [hv] at t0
  clear h hv hi hs
  go_enter Tryd.func35, Tryd.ntmps35
  go_wp2
  rw [← hb3]
  clear hW hb3 s35 t0
  refine AnyO.wp_anyI (by kernel_rfl) (by kernel_rfl) (AnyO.InvG (σ := Unit) (fun σ => AnyO.pvL [some (.pointer (some ⟨b3, 2, none⟩)), some (vI x), some (.pointer (some ⟨g, 0, none⟩)), some (.pointer (some ⟨g, 0, none⟩)), some (.pointer (some ⟨g, 0, none⟩)), some (vI x), some (.bool false), some (.bool false)]) (fun _ _ u => Below W1.heap.size W1 u)) (AnyO.InvG.start (g := ()) ((Below.refl _ _).drew)) ?_ ?_
  · intro i hi
    have hi2 : i = 0 ∨ i = 1 ∨ i = 2 ∨ i = 3 ∨ i = 4 ∨ i = 5 ∨ i = 6 ∨ i = 7 := by simp only [List.size_toArray, List.length_cons, List.length_nil] at hi; omega
    clear hi
    rcases hi2 with rfl | rfl | rfl | rfl | rfl | rfl | rfl | rfl
    · -- 0: Op.fieldAddr 45 (Operand.tmp 3) 2
      refine AnyO.StepI.mk rfl [] (by kernel_rfl) ?_
      intro D vs u hI h0 hC hp ac hb K hK
      obtain ⟨σ, hP, hW⟩ := hI
      have s3 : ac.tmps[3]?.getD undef = .pointer (some ⟨b3, 0, none⟩) := by rw [hb]; kernel_rfl
      rw [if_pos (AnyO.wanted_none rfl)]
      clear hb hp
      clear hC
      clear h0
      have HP := Lib.hid hP
      have HWq := Lib.hid hW
      clear hP hW
      go_simp
      have hP := HP.out
      have hW := HWq.out
      clear HP HWq
      exact hK _ _ (AnyO.InvG.step (g := σ) hP rfl hW)
    · -- 1: Op.load 40 (Operand.tmp 24)
      refine AnyO.StepI.mk rfl [0] (by kernel_rfl) ?_
      intro D vs u hI h0 hC hp ac hb K hK
      obtain ⟨σ, hP, hW⟩ := hI
      have s24 : ac.tmps[24]?.getD undef = .pointer (some ⟨b3, 2, none⟩) := by rw [hb]; exact (show _ = vs 0 by kernel_rfl).trans (show vs 0 = .pointer (some ⟨b3, 2, none⟩) from hP 0 (hp 0 (by decide)))
      rw [if_pos (AnyO.wanted_none rfl)]
      clear hb hp
      obtain ⟨rc0, ⟨rc2, rc2'⟩, rc35, rc38, ⟨rc, rc'⟩, _⟩ := row_C (HRC2.out.keep hW)
      rw [HA.out.2.2] at rc2'
      clear hC
      clear h0
      have HP := Lib.hid hP
      have HWq := Lib.hid hW
      clear hP hW
      go_simp
      have hP := HP.out
      have hW := HWq.out
      clear HP HWq
      exact hK _ _ (AnyO.InvG.step (g := σ) hP rfl hW)
    · -- 2: Op.move (Operand.tmp 0)
      refine AnyO.StepI.mk rfl [] (by kernel_rfl) ?_
      intro D vs u hI h0 hC hp ac hb K hK
      obtain ⟨σ, hP, hW⟩ := hI
      have s0 : ac.tmps[0]?.getD undef = .pointer (some ⟨g, 0, none⟩) := by rw [hb]; kernel_rfl
      rw [if_pos (AnyO.wanted_none rfl)]
      clear hb hp
      clear hC
      clear h0
      have HP := Lib.hid hP
      have HWq := Lib.hid hW
      clear hP hW
      go_simp
      have hP := HP.out
      have hW := HWq.out
      clear HP HWq
      exact hK _ _ (AnyO.InvG.step (g := σ) hP rfl hW)
    · -- 3: Op.nilCheck (Operand.tmp 26)
      refine AnyO.StepI.mk rfl [2] (by kernel_rfl) ?_
      intro D vs u hI h0 hC hp ac hb K hK
      obtain ⟨σ, hP, hW⟩ := hI
      have s26 : ac.tmps[26]?.getD undef = .pointer (some ⟨g, 0, none⟩) := by rw [hb]; exact (show _ = vs 2 by kernel_rfl).trans (show vs 2 = .pointer (some ⟨g, 0, none⟩) from hP 2 (hp 2 (by decide)))
      rw [if_pos (AnyO.wanted_none rfl)]
      clear hb hp
      clear hC
      clear h0
      have HP := Lib.hid hP
      have HWq := Lib.hid hW
      clear hP hW
      go_simp
      have hP := HP.out
      have hW := HWq.out
      clear HP HWq
      exact hK _ _ (AnyO.InvG.step (g := σ) hP rfl hW)
    · -- 4: Op.fieldAddr 113 (Operand.tmp 27) 0
      refine AnyO.StepI.mk rfl [3] (by kernel_rfl) ?_
      intro D vs u hI h0 hC hp ac hb K hK
      obtain ⟨σ, hP, hW⟩ := hI
      have s27 : ac.tmps[27]?.getD undef = .pointer (some ⟨g, 0, none⟩) := by rw [hb]; exact (show _ = vs 3 by kernel_rfl).trans (show vs 3 = .pointer (some ⟨g, 0, none⟩) from hP 3 (hp 3 (by decide)))
      rw [if_pos (AnyO.wanted_none rfl)]
      clear hb hp
      clear hC
      clear h0
      have HP := Lib.hid hP
      have HWq := Lib.hid hW
      clear hP hW
      go_simp
      have hP := HP.out
      have hW := HWq.out
      clear HP HWq
      exact hK _ _ (AnyO.InvG.step (g := σ) hP rfl hW)
    · -- 5: Op.load 40 (Operand.tmp 28)
      refine AnyO.StepI.mk rfl [4] (by kernel_rfl) ?_
      intro D vs u hI h0 hC hp ac hb K hK
      obtain ⟨σ, hP, hW⟩ := hI
      have s28 : ac.tmps[28]?.getD undef = .pointer (some ⟨g, 0, none⟩) := by rw [hb]; exact (show _ = vs 4 by kernel_rfl).trans (show vs 4 = .pointer (some ⟨g, 0, none⟩) from hP 4 (hp 4 (by decide)))
      rw [if_pos (AnyO.wanted_none rfl)]
      clear hb hp
      obtain ⟨⟨r0, r0'⟩, _⟩ := row_V (HR.out.keep hW).row
      clear hC
      clear h0
      have HP := Lib.hid hP
      have HWq := Lib.hid hW
      clear hP hW
      go_simp
      have hP := HP.out
      have hW := HWq.out
      clear HP HWq
      exact hK _ _ (AnyO.InvG.step (g := σ) hP rfl hW)
    · -- 6: Op.binOp BinOp.neq 40 (Operand.tmp 25) (Operand.tmp 29) 40
      refine AnyO.StepI.mk rfl [1, 5] (by kernel_rfl) ?_
      intro D vs u hI h0 hC hp ac hb K hK
      obtain ⟨σ, hP, hW⟩ := hI
      have s25 : ac.tmps[25]?.getD undef = vI x := by rw [hb]; exact (show _ = vs 1 by kernel_rfl).trans (show vs 1 = vI x from hP 1 (hp 1 (by decide)))
      have s29 : ac.tmps[29]?.getD undef = vI x := by rw [hb]; exact (show _ = vs 5 by kernel_rfl).trans (show vs 5 = vI x from hP 5 (hp 5 (by decide)))
      rw [if_pos (AnyO.wanted_none rfl)]
      clear hb hp
      clear hC
      clear h0
      have HP := Lib.hid hP
      have HWq := Lib.hid hW
      clear hP hW
      go_simp
      have hP := HP.out
      have hW := HWq.out
      clear HP HWq
      exact hK _ _ (AnyO.InvG.step (g := σ) hP rfl hW)
    · -- 7: Op.assign (Operand.tmp 30)
      refine AnyO.StepI.mk rfl [6] (by kernel_rfl) ?_
      intro D vs u hI h0 hC hp ac hb K hK
      obtain ⟨σ, hP, hW⟩ := hI
      have s30 : ac.tmps[30]?.getD undef = .bool false := by rw [hb]; exact (show _ = vs 6 by kernel_rfl).trans (show vs 6 = .bool false from hP 6 (hp 6 (by decide)))
      rw [if_pos (AnyO.wanted_none rfl)]
      clear hb hp
      clear hC
      clear h0
      have HP := Lib.hid hP
      have HWq := Lib.hid hW
      clear hP hW
      go_simp
      have hP := HP.out
      have hW := HWq.out
      clear HP HWq
      exact hK _ _ (AnyO.InvG.step (g := σ) hP rfl hW)
  · intro D vs u hI hD
    obtain ⟨σ, hP, hW⟩ := hI
    have e0 : vs 0 = .pointer (some ⟨b3, 2, none⟩) := hP 0 (hD 0 (by decide))
    have e1 : vs 1 = vI x := hP 1 (hD 1 (by decide))
    have e2 : vs 2 = .pointer (some ⟨g, 0, none⟩) := hP 2 (hD 2 (by decide))
    have e3 : vs 3 = .pointer (some ⟨g, 0, none⟩) := hP 3 (hD 3 (by decide))
    have e4 : vs 4 = .pointer (some ⟨g, 0, none⟩) := hP 4 (hD 4 (by decide))
    have e5 : vs 5 = vI x := hP 5 (hD 5 (by decide))
    have e6 : vs 6 = .bool false := hP 6 (hD 6 (by decide))
    have e7 : vs 7 = .bool false := hP 7 (hD 7 (by decide))
    have HW := Lib.hid hW
    clear hW hP hD
    rw [puts_range [some 24, some 25, some 26, some 27, some 28, some 29, some 30, some 23] (by kernel_rfl)]
    simp only [putL, Nat.reduceAdd, e0, e1, e2, e3, e4, e5, e6, e7]
    clear e0 e1 e2 e3 e4 e5 e6 e7
    go_simp
    go_wp2
    have HRF0 := Lib.hid (Row.new u (lFn g) 114)
    obtain ⟨b5, hb5⟩ : ∃ b5, b5 = u.heap.size := ⟨_, rfl⟩
    obtain ⟨U, hU⟩ : ∃ U, u.alloc (.cells (aFn g) 114) = U := ⟨_, rfl⟩
    have HRF := Lib.hid (show Row U b5 (lFn g) 114 by rw [← hU, hb5]; exact HRF0.out)
    have HBU := Lib.hid (show Below W1.heap.size W1 U by rw [← hU]; exact Below.step HW.out (below_alloc _ _))
    rw [hU, ← hb5]
    clear hU hb5 HRF0
    refine AnyO.wp_anyI (by kernel_rfl) (by kernel_rfl) (AnyO.InvG (σ := Value) (fun σ => AnyO.pvL [some (.pointer (some ⟨b3, 0, none⟩)), some (.int .i64 8), some (.pointer (some ⟨b5, 8, none⟩)), some (.func (.func 55) #[.pointer (some ⟨g, 0, none⟩)] #[]), some (vC c), some (.int .i64 0), some (.int .i64 0)]) (fun (σ : Value) D u => (D 5 = false → Below U.heap.size U u) ∧ (D 5 = true → RecR g x sz l true q v u ∧ Turn g v v U u))) (AnyO.InvG.start (g := v) (⟨fun _ => (Below.refl _ _).drew, fun h => by cases h⟩)) ?_ ?_
    · intro i hi
      have hi2 : i = 0 ∨ i = 1 ∨ i = 2 ∨ i = 3 ∨ i = 4 ∨ i = 5 ∨ i = 6 := by simp only [List.size_toArray, List.length_cons, List.length_nil] at hi; omega
      clear hi
      rcases hi2 with rfl | rfl | rfl | rfl | rfl | rfl | rfl
      · -- 0: Op.fieldAddr 45 (Operand.tmp 3) 0
        refine AnyO.StepI.mk rfl [] (by kernel_rfl) ?_
        intro D vs u hI h0 hC hp ac hb K hK
        obtain ⟨σ, hP, hW⟩ := hI
        have s3 : ac.tmps[3]?.getD undef = .pointer (some ⟨b3, 0, none⟩) := by rw [hb]; kernel_rfl
        rw [if_pos (AnyO.wanted_none rfl)]
        clear hb hp
        clear hC
        clear h0
        have HP := Lib.hid hP
        have HWq := Lib.hid hW
        clear hP hW
        go_simp
        have hP := HP.out
        have hW := HWq.out
        clear HP HWq
        exact hK _ _ (AnyO.InvG.step (g := σ) hP rfl hW)
      · -- 1: Op.load 3 (Operand.tmp 36)
        refine AnyO.StepI.mk rfl [0] (by kernel_rfl) ?_
        intro D vs u hI h0 hC hp ac hb K hK
        obtain ⟨σ, hP, hW⟩ := hI
        have s36 : ac.tmps[36]?.getD undef = .pointer (some ⟨b3, 0, none⟩) := by rw [hb]; exact (show _ = vs 0 by kernel_rfl).trans (show vs 0 = .pointer (some ⟨b3, 0, none⟩) from hP 0 (hp 0 (by decide)))
        rw [if_pos (AnyO.wanted_none rfl)]
        clear hb hp
        have hq3 : D 3 = false := by
          rcases hd : D 3 with _ | _
          · rfl
          · have hz2 := hC 3 hd 2 (by rw [show AnyO.pre _ 3 = [2] from by kernel_rfl]; decide)
            have hz := hC 2 hz2 1 (by rw [show AnyO.pre _ 2 = [1] from by kernel_rfl]; decide)
            rw [h0] at hz
            cases hz
        have hf5 : D 5 = false := by
          rcases hd : D 5 with _ | _
          · rfl
          · have hz := hC 5 hd 3 (by rw [show AnyO.pre _ 5 = [3, 4] from by kernel_rfl]; decide)
            rw [hq3] at hz
            cases hz
        have hWb := hW.1 hf5
        obtain ⟨rc0, ⟨rc2, rc2'⟩, rc35, rc38, ⟨rc, rc'⟩, _⟩ := row_C ((HRC2.out.keep HBU.out).keep hWb)
        rw [HA.out.2.1] at rc0
        clear hC
        clear h0
        have HP := Lib.hid hP
        have HWq := Lib.hid hW
        clear hP hW
        go_simp
        have hP := HP.out
        have hW := HWq.out
        clear HP HWq
        exact hK _ _ (AnyO.InvG.step (g := σ) hP rfl hW)
      · -- 2: Op.indexAddr 114 (Operand.tmp 5) (Operand.tmp 37)
        refine AnyO.StepI.mk rfl [1] (by kernel_rfl) ?_
        intro D vs u hI h0 hC hp ac hb K hK
        obtain ⟨σ, hP, hW⟩ := hI
        have s5 : ac.tmps[5]?.getD undef = .pointer (some ⟨b5, 0, none⟩) := by rw [hb]; kernel_rfl
        have s37 : ac.tmps[37]?.getD undef = .int .i64 8 := by rw [hb]; exact (show _ = vs 1 by kernel_rfl).trans (show vs 1 = .int .i64 8 from hP 1 (hp 1 (by decide)))
        rw [if_pos (AnyO.wanted_none rfl)]
        clear hb hp
        clear hC
        clear h0
        have HP := Lib.hid hP
        have HWq := Lib.hid hW
        clear hP hW
        go_simp
        have hP := HP.out
        have hW := HWq.out
        clear HP HWq
        exact hK _ _ (AnyO.InvG.step (g := σ) hP rfl hW)
      · -- 3: Op.load 48 (Operand.tmp 38)
        refine AnyO.StepI.mk rfl [2] (by kernel_rfl) ?_
        intro D vs u hI h0 hC hp ac hb K hK
        obtain ⟨σ, hP, hW⟩ := hI
        have s38 : ac.tmps[38]?.getD undef = .pointer (some ⟨b5, 8, none⟩) := by rw [hb]; exact (show _ = vs 2 by kernel_rfl).trans (show vs 2 = .pointer (some ⟨b5, 8, none⟩) from hP 2 (hp 2 (by decide)))
        rw [if_pos (AnyO.wanted_none rfl)]
        clear hb hp
        have hf5 : D 5 = false := by
          rcases hd : D 5 with _ | _
          · rfl
          · have hz := hC 5 hd 3 (by rw [show AnyO.pre _ 5 = [3, 4] from by kernel_rfl]; decide)
            rw [h0] at hz
            cases hz
        have hWb := hW.1 hf5
        have rr := (HRF.out.keep hWb).cell 8
        rw [show (lFn g)[8]? = some (.func (.func 55) #[.pointer (some ⟨g, 0, none⟩)] #[]) from rfl] at rr
        clear hC
        clear h0
        have HP := Lib.hid hP
        have HWq := Lib.hid hW
        clear hP hW
        go_simp
        have hP := HP.out
        have hW := HWq.out
        clear HP HWq
        exact hK _ _ (AnyO.InvG.step (g := σ) hP rfl hW)
      · -- 4: Op.load 45 (Operand.tmp 3)
        refine AnyO.StepI.mk rfl [] (by kernel_rfl) ?_
        intro D vs u hI h0 hC hp ac hb K hK
        obtain ⟨σ, hP, hW⟩ := hI
        have s3 : ac.tmps[3]?.getD undef = .pointer (some ⟨b3, 0, none⟩) := by rw [hb]; kernel_rfl
        rw [if_pos (AnyO.wanted_none rfl)]
        clear hb hp
        have hf5 : D 5 = false := by
          rcases hd : D 5 with _ | _
          · rfl
          · have hz := hC 5 hd 4 (by rw [show AnyO.pre _ 5 = [3, 4] from by kernel_rfl]; decide)
            rw [h0] at hz
            cases hz
        have hWb := hW.1 hf5
        obtain ⟨rc0, ⟨rc2, rc2'⟩, rc35, rc38, ⟨rc, rc'⟩, _⟩ := row_C ((HRC2.out.keep HBU.out).keep hWb)
        clear hC
        clear h0
        have HP := Lib.hid hP
        have HWq := Lib.hid hW
        clear hP hW
        go_simp
        have hP := HP.out
        have hW := HWq.out
        clear HP HWq
        exact hK _ _ (AnyO.InvG.step (g := σ) hP rfl hW)
      · -- 5: Op.call { callee := Callee.value (Operand.tmp 39), args := #
        refine AnyO.StepI.mk rfl [3, 4] (by kernel_rfl) ?_
        intro D vs u hI h0 hC hp ac hb K hK
        obtain ⟨σ, hP, hW⟩ := hI
        have s39 : ac.tmps[39]?.getD undef = .func (.func 55) #[.pointer (some ⟨g, 0, none⟩)] #[] := by rw [hb]; exact (show _ = vs 3 by kernel_rfl).trans (show vs 3 = .func (.func 55) #[.pointer (some ⟨g, 0, none⟩)] #[] from hP 3 (hp 3 (by decide)))
        have s40 : ac.tmps[40]?.getD undef = vC c := by rw [hb]; exact (show _ = vs 4 by kernel_rfl).trans (show vs 4 = vC c from hP 4 (hp 4 (by decide)))
        rw [if_pos (AnyO.wanted_none rfl)]
        clear hb hp
        clear hC
        have HP := Lib.hid hP
        have HWq := Lib.hid hW
        clear hP hW
        go_simp
        have hP := HP.out
        have hW := HWq.out
        clear HP HWq
        have hWb := hW.1 h0
        go_at_call 55
        refine (done55 g x sz l q v c u ((HR.out.keep HBU.out).keep hWb) HA.out.1).mono ?_
        rintro e w2 ⟨rfl, hr9, ht9⟩
        exact hK _ _ (AnyO.InvG.step (g := σ) hP rfl ⟨fun h => (by cases h), fun _ => ⟨hr9, (Turn.of_below hWb g v).trans ht9⟩⟩)
      · -- 6: Op.assign (Operand.tmp 41)
        refine AnyO.StepI.mk rfl [5, 5, 0, 1, 2, 3, 4, 5] (by kernel_rfl) ?_
        intro D vs u hI h0 hC hp ac hb K hK
        obtain ⟨σ, hP, hW⟩ := hI
        have s41 : ac.tmps[41]?.getD undef = .int .i64 0 := by rw [hb]; exact (show _ = vs 5 by kernel_rfl).trans (show vs 5 = .int .i64 0 from hP 5 (hp 5 (by decide)))
        rw [if_pos (AnyO.wanted_none rfl)]
        clear hb hp
        clear hC
        clear h0
        have HP := Lib.hid hP
        have HWq := Lib.hid hW
        clear hP hW
        go_simp
        have hP := HP.out
        have hW := HWq.out
        clear HP HWq
        exact hK _ _ (AnyO.InvG.step (g := σ) hP rfl hW)
    · intro D vs u hI hD
      obtain ⟨σ, hP, hW⟩ := hI
      have e0 : vs 0 = .pointer (some ⟨b3, 0, none⟩) := hP 0 (hD 0 (by decide))
      have e1 : vs 1 = .int .i64 8 := hP 1 (hD 1 (by decide))
      have e2 : vs 2 = .pointer (some ⟨b5, 8, none⟩) := hP 2 (hD 2 (by decide))
      have e3 : vs 3 = .func (.func 55) #[.pointer (some ⟨g, 0, none⟩)] #[] := hP 3 (hD 3 (by decide))
      have e4 : vs 4 = vC c := hP 4 (hD 4 (by decide))
      have e5 : vs 5 = .int .i64 0 := hP 5 (hD 5 (by decide))
      have e6 : vs 6 = .int .i64 0 := hP 6 (hD 6 (by decide))
      have hz := hW.2 (hD 5 (by decide))
      replace hW := hz
      have HW := Lib.hid hW
      clear hW hP hD
      rw [puts_range [some 36, some 37, some 38, some 39, some 40, some 41, some 4] (by kernel_rfl)]
      simp only [putL, Nat.reduceAdd, e0, e1, e2, e3, e4, e5, e6]
      clear e0 e1 e2 e3 e4 e5 e6
      go_simp
      go_wp2
      go_ret
      exact ⟨rfl, HW.out.1, ((Turn.of_below HBW.out g v).trans (Turn.of_below HBU.out g v)).trans HW.out.2⟩
end
section
open Go.RowKit
def vV (x : Id) (sz : Int) (q : Option Addr) (v : Value) (cp : Bool) : Value := .agg (cV x sz q v cp).toArray
def aV (x : Id) (sz : Int) (q : Option Addr) (v : Value) (cp : Bool) : Array Value := (cV x sz q v cp).toArray
section
variable (w : World) (v : Value)
@[go_sem ↓] theorem blt113 (parts : Array (Nat × Value)) : Instr.build 113 parts = blA 113 parts := rfl
@[go_sem ↓] theorem box113 : Instr.box 113 v = bxA 113 v := rfl
@[go_sem] theorem run_bx113 (x : Id) (sz : Int) (q : Option Addr) (u : Value) (cp : Bool) : (bxA 113 (vV x sz q u cp)).run Tryd.prog w = .ok (.pointer (some ⟨w.heap.size, 0, none⟩)) (w.alloc (.cells (aV x sz q u cp) 113)) := run_bxA w 113 _
@[go_sem] theorem bl113_2 (n : Int) (x : Id) : (blA 113 #[(0, vI x), (1, .int .i64 n)]).run Tryd.prog w = .ok (vV x n none (.slice none 0 0) false) w := by
  revert x
  refine Id.cases fun a0 a1 a2 a3 a4 a5 a6 a7 a8 a9 a10 a11 a12 a13 a14 a15 a16 a17 a18 a19 a20 a21 a22 a23 a24 a25 a26 a27 a28 a29 a30 a31 => ?_
  kernel_rfl
end
set_option maxRecDepth 100000 in
set_option maxHeartbeats 1600000 in
theorem new32 (x : Id) (n : Int) (w : World) (h0 : 0 ≤ n) (h1 : n ≤ 65536) : Calls Tryd.prog 32 #[vI x, .int .i64 n] w fun e w' => ∃ g, e = .returned (.tuple #[.pointer (some ⟨g, 0, none⟩), .int .i64 0]) ∧ w.heap.size ≤ g ∧ RecR g x n [] false none (.slice none 0 0) w' ∧ Below w.heap.size w w' := by
  have q1 : ¬ n < 0 := by omega
  have q2 : ¬ n > 65536 := by omega
  have q3 : ¬ (65536 : Int) < n := by omega
  have HB := Lib.hid (Below.step (below_alloc w (.cells (aI x) 40)) (below_alloc (w.alloc (.cells (aI x) 40)) (.cells (aV x n none (.slice none 0 0) false) 113)))
  have HR := Lib.hid (Row.new (w.alloc (.cells (aI x) 40)) (cV x n none (.slice none 0 0) false) 113)
  clear h0 h1
  go_enter Tryd.func32, Tryd.ntmps32
  go_wp2
  go_ret2
  exact ⟨w.heap.size + 1, rfl, by omega, ⟨by have := HR.out; rw [show (w.alloc (.cells (aI x) 40)).heap.size = w.heap.size + 1 by simp] at this; exact this, World.ownsRow_nil _ _ _ _, (fun e => by cases e), Or.inl rfl⟩, HB.out⟩
set_option maxRecDepth 100000 in
set_option maxHeartbeats 1600000 in
theorem str56 (g : Nat) (x : Id) (sz : Int) (l : List UInt8) (cp : Bool) (q : Option Addr) (v : Value) (w : World) (h : RecR g x sz l cp q v w) (hl : l ≠ []) : Calls Tryd.prog 56 #[.pointer (some ⟨g, 33, none⟩)] w fun e w' => e = .returned (.string ⟨l.toArray⟩) ∧ Turn g v v w w' := by
  have hl0 : l.length ≠ 0 := by simpa using hl
  obtain ⟨k, cap, cur, rfl, _, hk, hnc, hcm, hcs, htake⟩ : ∃ k cap cur, v = .slice (some ⟨k, 0, none⟩) l.length cap ∧ 0 ≤ k ∧ w.heap[k]? = some (.cells cur 5 (0, 0)) ∧ l.length ≤ cap ∧ cap ≤ maxLen ∧ cur.size = cap * 1 ∧ cur.toList.take (l.length * 1) = Lib.byteCells l := by
    rcases h.own.2 with ⟨_, hz⟩ | ⟨k, cap, cur, hv, r⟩
    · exact absurd hz hl0
    · exact ⟨k, cap, cur, hv, r⟩
  have c1 : w.drew.cell? ⟨g, 34, none⟩ = some (.slice (some ⟨k, 0, none⟩) l.length cap) := (row_V h.row).2.2.1
  have hSD : (Builtin.unsafeSliceData_ #[77] 133 #[.slice (some ⟨k, 0, none⟩) l.length cap]).run Tryd.prog w.drew = .ok (.pointer (some ⟨k, 0, none⟩)) w.drew :=
    Lib.run_unsafeSliceData_row _ _ _ _ _ _ (by omega)
  have hUS : (Builtin.unsafeString_ #[133, 3] 9 #[.pointer (some ⟨k, 0, none⟩), .int .i64 l.length]).run Tryd.prog w.drew = .ok (.string ⟨l.toArray⟩) (w.drew.freeze ⟨k, 0, none⟩ l.length) := by
    refine Lib.run_unsafeString_row w.drew 133 3 9 5 Tryd.underlying133 (by kernel_rfl) k cur.size (by have hg' : w.drew.heap[k]? = some (.cells cur 5 (0, 0)) := hk; simp [World.shape?, hg']) l hl (by omega) (by unfold maxLen at hcm; omega) ?_
    intro j y hy
    have := h.own.cells (g := k) rfl j (.int .u8 y.toNat) (by simp [Lib.byteCells, hy])
    exact this
  have HT := Lib.hid (show Turn g (.slice (some ⟨k, 0, none⟩) l.length cap) (.slice (some ⟨k, 0, none⟩) l.length cap) w (w.drew.freeze ⟨k, 0, none⟩ l.length) from by
    unfold World.freeze
    rw [if_neg hl0]
    refine ⟨rfl, rfl, rfl, Nat.le_of_eq (Array.size_modify ..).symm, fun j _ _ hj => ?_, Or.inl rfl⟩
    have hne : ¬ k = j := fun e => hj (by rw [e]; rfl)
    show (w.drew.heap.modify k _)[j]? = w.heap[j]?
    rw [Array.getElem?_modify, if_neg hne]
    rfl)
  clear h hk hcm hcs htake
  have mixed : Tryd.prog.follows .mixedOrders = true := by kernel_rfl
  generalize l.length = n at *
  go_enter Tryd.func56, Tryd.ntmps56
  go_wp2
  go_region_o
  all_goals (go_wp2; go_ret; exact ⟨rfl, HT.out⟩)
set_option maxRecDepth 100000 in
set_option maxHeartbeats 1600000 in
theorem text36 (g : Nat) (x : Id) (sz : Int) (l : List UInt8) (q : Option Addr) (v : Value) (w : World) (h : RecR g x sz l true q v w) (hl : l ≠ []) : Calls Tryd.prog 36 #[.pointer (some ⟨g, 0, none⟩)] w fun e w' => e = .returned (.tuple #[.string ⟨l.toArray⟩, .int .i64 0]) ∧ Turn g v v w w' := by
  obtain ⟨_, _, _, c35, _⟩ := row_V h.row
  have HX := Lib.hid (And.intro h hl)
  clear h hl
  go_enter Tryd.func36, Tryd.ntmps36
  go_wp2_with (go_at_call 56; refine (str56 g x sz l true q v _ HX.out.1 HX.out.2).mono ?_; rintro e w1 ⟨rfl, ht⟩; have H1 := Lib.hid ht; clear ht)
  go_ret2
  exact ⟨rfl, H1.out⟩
end
section
open Go.RowKit
theorem ownsRow_same {w w' : World} {B n : Nat} {e : TypeId} {sz : Nat} {v : Value} {xs : List Value} (h : w.ownsRow B e sz v n xs) (hk : ∀ k, v.ownBlock = some k → w'.heap[k]? = w.heap[k]?) : w'.ownsRow B e sz v n xs := by
  refine ⟨h.1, h.2.imp id fun ⟨g, cap, cur, a1, a2, a3, r⟩ => ⟨g, cap, cur, a1, a2, ?_, r⟩⟩
  rw [hk g (by rw [a1]; rfl)]
  exact a3
/-- A sender, a receiver (its struct's row, its bytes' row), rows beside. -/
structure InvV (w0 : World) (b : Nat) (ch : Int) (s : St) (L : List (Nat × List Value × TypeId)) (g : Nat) (x : Id) (sz : Int) (l : List UInt8) (cp : Bool) (q : Option Addr) (v : Value) (w : World) : Prop where
  inv : ∃ M, Inv w0 b ch s (M ++ ((g, cV x sz q v cp, 113) :: L)) w ∧ ∀ k, v.ownBlock = some k → w0.heap.size ≤ k ∧ k ∉ L.map (·.1) ∧ ∃ cs, (k, cs, (5 : TypeId)) ∈ M
  rec_ : RecR g x sz l cp q v w
  le : w0.heap.size ≤ g
  gL : g ∉ L.map (·.1)
section
variable {w0 w w' : World} {b : Nat} {ch : Int} {s s' : St} {L L' : List (Nat × List Value × TypeId)} {g : Nat} {x : Id} {sz : Int} {l l' : List UInt8} {cp cp' : Bool} {q q' : Option Addr} {v v' : Value}
theorem InvV.base (h : InvV w0 b ch s L g x sz l cp q v w) : Inv w0 b ch s L w := by
  obtain ⟨M, h1, _⟩ := h.inv
  exact h1.sub fun y hy => List.mem_append_right _ (List.mem_cons_of_mem _ hy)
theorem InvV.step (h : InvV w0 b ch s L g x sz l cp q v w) (hc : ∀ M, Inv w0 b ch s (M ++ ((g, cV x sz q v cp, 113) :: L)) w → Inv w0 b ch s' (M ++ ((g, cV x sz q v cp, 113) :: L)) w') : InvV w0 b ch s' L g x sz l cp q v w' := by
  obtain ⟨M, h1, h2⟩ := h.inv
  have h3 := hc M h1
  refine ⟨⟨M, h3, h2⟩, ⟨h3.row (List.mem_append_right _ List.mem_cons_self), ownsRow_same h.rec_.own fun k hk => ?_, h.rec_.ne, h.rec_.q⟩, h.le, h.gL⟩
  obtain ⟨_, _, cs, h4⟩ := h2 k hk
  exact (h3.row (List.mem_append_left _ h4)).trans (h1.row (List.mem_append_left _ h4)).symm
theorem InvV.calls {P : Program} {f : FuncId} {args : Array Value} {u : Value} (h : InvV w0 b ch s L g x sz l cp q v w) (hc : ∀ M, Inv w0 b ch s M w → Calls P f args w fun e w' => e = .returned u ∧ Inv w0 b ch s' M w') : Calls P f args w fun e w' => e = .returned u ∧ InvV w0 b ch s' L g x sz l cp q v w' := by
  obtain ⟨M, h1, h2⟩ := h.inv
  refine (hc _ h1).mono ?_
  rintro e w' ⟨rfl, h3⟩
  refine ⟨rfl, ⟨M, h3, h2⟩, ⟨h3.row (List.mem_append_right _ List.mem_cons_self), ownsRow_same h.rec_.own fun k hk => ?_, h.rec_.ne, h.rec_.q⟩, h.le, h.gL⟩
  obtain ⟨_, _, cs, h4⟩ := h2 k hk
  exact (h3.row (List.mem_append_left _ h4)).trans (h1.row (List.mem_append_left _ h4)).symm
theorem InvV.below (h : InvV w0 b ch s L g x sz l cp q v w) (hb : Below w.heap.size w w') : InvV w0 b ch s L g x sz l cp q v w' := h.step fun _ hM => hM.below hb
theorem InvV.row (h : InvV w0 b ch s L g x sz l cp q v w) {k : Nat} {cs : List Value} {ty : TypeId} (hx : (k, cs, ty) ∈ L) : Row w k cs ty := h.base.row hx
/-- A call of the receiver. -/
theorem InvV.turn (h : InvV w0 b ch s L g x sz l cp q v w) (hr : RecR g x sz l' cp' q' v' w') (ht : Turn g v v' w w') : InvV w0 b ch s L g x sz l' cp' q' v' w' := by
  obtain ⟨M, hI, h2⟩ := h.inv
  obtain ⟨F, f1, f2, f3⟩ := hI.rep
  have hoF : ∀ k ∈ F, some k ≠ v.ownBlock := fun k hk e => by
    obtain ⟨_, _, cs, h5⟩ := h2 k e.symm
    exact (f3 _ (List.mem_append_left _ h5)).2 hk
  have hgF : g ∉ F := (f3 (g, _, 113) (List.mem_append_right _ List.mem_cons_self)).2
  have hbel : Below w0.heap.size w0 w' := ⟨ht.os.trans hI.bel.os, ht.tape.trans hI.bel.tape, ht.output.trans hI.bel.output, Nat.le_trans hI.bel.size ht.size, fun k hk => (ht.out k (Nat.lt_of_lt_of_le hk hI.bel.size) (by have := h.le; omega) (fun e => by have := (h2 k e.symm).1; omega)).trans (hI.bel.block k hk)⟩
  have hLs : ∀ y ∈ L, Row w' y.1 y.2.1 y.2.2 ∧ y.1 ∉ F := fun y hy => by
    obtain ⟨r1, r2⟩ := f3 y (List.mem_append_right _ (List.mem_cons_of_mem _ hy))
    exact ⟨r1.same (ht.out y.1 r1.lt (fun e => h.gL (List.mem_map.2 ⟨y, hy, e⟩)) (fun e => (h2 y.1 e.symm).2.1 (List.mem_map.2 ⟨y, hy, rfl⟩))), r2⟩
  have hrep : Rep b ch s F w' := by
    obtain ⟨vw, vo, p, hr⟩ := f1
    exact ⟨vw, vo, p, hr.same fun k hk => ht.out k (f2 k hk).2 (fun e => hgF (e ▸ hk)) (hoF k hk)⟩
  have hF2 : ∀ k ∈ F, w0.heap.size ≤ k ∧ k < w'.heap.size := fun k hk => ⟨(f2 k hk).1, Nat.lt_of_lt_of_le (f2 k hk).2 ht.size⟩
  have fin : ∀ M' : List (Nat × List Value × TypeId), (∀ y ∈ M', Row w' y.1 y.2.1 y.2.2 ∧ y.1 ∉ F) → Inv w0 b ch s (M' ++ ((g, cV x sz q' v' cp', 113) :: L)) w' := fun M' hM => ⟨hbel, F, hrep, hF2, fun y hy => by
    rcases List.mem_append.1 hy with hy | hy
    · exact hM y hy
    · rcases List.mem_cons.1 hy with rfl | hy
      · exact ⟨hr.row, hgF⟩
      · exact hLs y hy⟩
  rcases hr.own.2 with ⟨e0, _⟩ | ⟨k, cap, cur, e0, _, hcur, _⟩
  · exact ⟨⟨[], fin [] (fun _ hy => by cases hy), fun k e => by rw [e0] at e; cases e⟩, hr, h.le, h.gL⟩
  · have hkb : v'.ownBlock = some k := by rw [e0]; rfl
    have hrow : Row w' k cur.toList 5 := by unfold Row; rw [hcur]
    have hk : w0.heap.size ≤ k ∧ k ∉ L.map (·.1) ∧ k ∉ F := by
      rcases ht.at_ with e | ⟨m, e, hm⟩
      · have e1 : v.ownBlock = some k := e.symm.trans hkb
        exact ⟨(h2 k e1).1, (h2 k e1).2.1, fun hm => hoF k hm e1.symm⟩
      · have e2 : k = m := Option.some.inj (hkb.symm.trans e)
        subst e2
        refine ⟨Nat.le_trans hI.bel.size hm, fun hx => ?_, fun hx => by have := (f2 k hx).2; omega⟩
        obtain ⟨y, hy, e3⟩ := List.mem_map.1 hx
        have := (f3 y (List.mem_append_right _ (List.mem_cons_of_mem _ hy))).1.lt
        omega
    exact ⟨⟨[(k, cur.toList, 5)], fin _ (fun y hy => by rw [List.mem_singleton.1 hy]; exact ⟨hrow, hk.2.2⟩), fun k' e => by
      obtain rfl : k = k' := Option.some.inj (hkb.symm.trans e)
      exact ⟨hk.1, hk.2.1, cur.toList, List.mem_singleton.2 rfl⟩⟩, hr, h.le, h.gL⟩
theorem Inv.addNew {U : World} (h : Inv w0 b ch s L U) (hb : Below U.heap.size U w) {k : Nat} {cs : List Value} {ty : TypeId} (hk : U.heap.size ≤ k) (hrow : Row w k cs ty) : Inv w0 b ch s ((k, cs, ty) :: L) w := by
  obtain ⟨F, h1, h2, h3⟩ := h.rep
  refine ⟨Below.step h.bel hb, F, h1.keep hb, fun j hj => ⟨(h2 j hj).1, Nat.lt_of_lt_of_le (h2 j hj).2 hb.size⟩, fun y hy => ?_⟩
  rcases List.mem_cons.1 hy with rfl | hy
  · exact ⟨hrow, fun hm => by have := (h2 _ hm).2; omega⟩
  · exact ⟨(h3 y hy).1.keep hb, (h3 y hy).2⟩
/-- A receiver that has just been made. -/
theorem InvV.start {U : World} (h : Inv w0 b ch s L U) (hb : Below U.heap.size U w) (hg : U.heap.size ≤ g) (hr : RecR g x sz [] false none (.slice none 0 0) w) : InvV w0 b ch s L g x sz [] false none (.slice none 0 0) w :=
  ⟨⟨[], h.addNew hb hg hr.row, fun k e => by cases e⟩, hr, Nat.le_trans h.bel.size hg, fun hm => by
    obtain ⟨y, hy, e⟩ := List.mem_map.1 hm
    have := (h.row (g := y.1) (cs := y.2.1) (ty := y.2.2) hy).lt
    omega⟩
theorem InvV.sub (h : InvV w0 b ch s L g x sz l cp q v w) (hs : ∀ y ∈ L', y ∈ L) : InvV w0 b ch s L' g x sz l cp q v w := by
  obtain ⟨M, h1, h2⟩ := h.inv
  have hm : ∀ k, k ∈ L'.map (·.1) → k ∈ L.map (·.1) := fun k hk => by
    obtain ⟨y, hy, e⟩ := List.mem_map.1 hk
    exact List.mem_map.2 ⟨y, hs y hy, e⟩
  exact ⟨⟨M, h1.sub fun y hy => by
    rcases List.mem_append.1 hy with hy | hy
    · exact List.mem_append_left _ hy
    · rcases List.mem_cons.1 hy with rfl | hy
      · exact List.mem_append_right _ List.mem_cons_self
      · exact List.mem_append_right _ (List.mem_cons_of_mem _ (hs y hy)), fun k e => ⟨(h2 k e).1, fun hk => (h2 k e).2.1 (hm k hk), (h2 k e).2.2⟩⟩, h.rec_, h.le, fun hk => h.gL (hm g hk)⟩
end
end
end Go.Proofs.YtlelecnafdddhaaDoor
