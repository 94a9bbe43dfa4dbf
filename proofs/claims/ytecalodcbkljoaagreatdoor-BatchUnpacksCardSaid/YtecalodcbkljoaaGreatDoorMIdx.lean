/- Append that tells where it lies; two slices of the call's own beside each other. The identities of a batch and the lengths of its texts: batch.Index. -/
import Derived.Test.YtecalodcbkljoaaGreatDoorMSlv
import Derived.Maps.AppendAt
namespace Go.Proofs.YtecalodcbkljoaaGreatDoor
open Go.RowKit
section
variable {P : Program} (w : World)
theorem wpList_append_slat {α : Type} {ops : Array Oper} {rest : List Oper} {o : Oper} {a : Act} {Q : Exit → Act → World → Prop} (hgd : o.guard = none) (sx x : Operand) (t : TypeId)
    (ho : o.op = .call { callee := .builtin .append, args := #[sx, x], argTypes := #[t, t] })
    (base : Nat) (e : TypeId) (s bytes : Nat) (enc : α → List Value) (ht : P.underlying t = some (.slice e)) (hi : (P.info? e).map (fun i => (i.zero.map (·.cells.size), i.size, i.bytes)) = some (some s, s, bytes)) (hsz : 0 < s)
    (hs : ∀ x, (enc x).length = s) (h1 : ∀ x, ∀ u ∈ enc x, u.oneCell' = true)
    (v : Value) (xs : List α) (hv : a.eval sx = v) (hown : Own w base e s enc v xs)
    (A : Option Addr) (m c : Nat) (ys : List α) (hm : ys.length = m) (hx : a.eval x = .slice A m c) (hsl : Sl w enc A ys)
    (hlen : (xs.length + m) * bytes ≤ 140737488355328) (hl2 : xs.length + m ≤ 9223372036854775807) (hbase : base ≤ w.heap.size)
    (h : ∀ v' w', Own w' base e s enc v' (xs ++ ys) → w.grownBy w' v.ownBlock → (v'.ownBlock = v.ownBlock ∨ v'.ownBlock = some w.heap.size) → wpList P ops Q rest (a.put o.dst v') w') : wpList P ops Q (o :: rest) a w := by
  subst hm
  refine wpList_plain hgd fun K hK => ?_
  cases hq : P.info? e with
  | none => rw [hq] at hi; cases hi
  | some i =>
    simp only [hq, Option.map_some, Option.some.injEq, Prod.mk.injEq] at hi
    obtain ⟨hz, hsi, hby⟩ := hi
    cases hz0 : i.zero with
    | none => rw [hz0] at hz; cases hz
    | some z =>
      simp only [hz0, Option.map_some, Option.some.injEq] at hz
      have hones : ∀ u ∈ ys.flatMap enc, u.oneCell' = true := by
        intro u hu
        obtain ⟨y, _, hy⟩ := List.mem_flatMap.1 hu
        exact h1 y u hy
      have fin : ∀ v' w', w'.ownsRow base e s v' (xs.length + ys.length) (xs.flatMap enc ++ ys.flatMap enc) → Own w' base e s enc v' (xs ++ ys) := by
        intro v' w' ho
        unfold Own
        rw [List.length_append, List.flatMap_append]
        exact ho
      by_cases hys : ys = []
      · subst hys
        have hrun : (Builtin.append_ #[t, t] o.type #[v, .slice A 0 c]).run P w = .ok v w := by
          rcases hown.2 with ⟨rfl, _⟩ | ⟨g, cap, cur, rfl, _, _, hnc, _⟩
          · cases A <;> simp [Builtin.append_, run_underlying ht, sizeOf, typeInfo, hq, Builtin.lenOf, Builtin.firstCells, loadCells, loadCellsFrom]
          · cases A <;> simp [Builtin.append_, run_underlying ht, sizeOf, typeInfo, hq, Builtin.lenOf, Builtin.firstCells, hnc, storeCells, loadCells, loadCellsFrom]
        unfold Oper.wp execOp
        simp only [ho, resolve, invoke, builtin, Sem.run_bind, Sem.run_pure, Result.andThen_ok, List.map_toArray, List.map_cons, List.map_nil, hv, hx, List.length_nil, hrun]
        exact hK _ _ (h v w (fin v w (by have := hown; unfold Own at this; simpa using this)) (World.grownBy.refl w _) (Or.inl rfl))
      · obtain ⟨ad, rfl, hat⟩ := hsl hys
        obtain ⟨v', w', hr, h2, h3, h4, h5⟩ := run_append_own_at (P := P) w base t o.type e i z s bytes ht hq hz0 hsi hby hz hsz v xs.length (xs.flatMap enc) hown ad ys.length c (ys.flatMap enc) (flatMap_length enc s hs ys) hat.2 hones (by unfold maxLen; omega) hlen hbase
        unfold Oper.wp execOp
        simp only [ho, resolve, invoke, builtin, Sem.run_bind, Sem.run_pure, Result.andThen_ok, List.map_toArray, List.map_cons, List.map_nil, hv, hx, hr]
        exact hK _ _ (h v' w' (fin v' w' h2) h3 h5)
end
/-- A slice of the call's own beside another that grows. -/
theorem Own.beside {α : Type} {w w' : World} {base : Nat} {e : TypeId} {s : Nat} {enc : α → List Value} {v u : Value} {xs : List α} (h : Own w base e s enc v xs) (hg : w.grownBy w' u.ownBlock) (hne : ∀ k, v.ownBlock = some k → u.ownBlock ≠ some k) : Own w' base e s enc v xs := by
  refine ⟨h.1, h.2.imp id fun ⟨k, cap, cur, a1, a2, a3, r⟩ => ⟨k, cap, cur, a1, a2, ?_, r⟩⟩
  rw [hg.block k (Array.getElem?_eq_some_iff.1 a3).1 (fun e => hne k (by rw [a1]; rfl) e.symm)]
  exact a3
/-- The two lie apart behind it too. -/
theorem apart_grew {α : Type} {w : World} {base : Nat} {e : TypeId} {s : Nat} {enc : α → List Value} {v u u' : Value} {xs : List α} (h : Own w base e s enc v xs) (hne : ∀ k, v.ownBlock = some k → u.ownBlock ≠ some k) (hat : u'.ownBlock = u.ownBlock ∨ u'.ownBlock = some w.heap.size) : ∀ k, v.ownBlock = some k → u'.ownBlock ≠ some k := by
  intro k hk
  rcases hat with e | e
  · rw [e]
    exact hne k hk
  · rw [e]
    intro h2
    have := (h.lt k hk).2
    have := Option.some.inj h2
    omega
theorem apart_symm {u v : Value} (h : ∀ k, v.ownBlock = some k → u.ownBlock ≠ some k) : ∀ k, u.ownBlock = some k → v.ownBlock ≠ some k := fun k hu hv => h k hv hu
end Go.Proofs.YtecalodcbkljoaaGreatDoor
namespace Go.Proofs.YtecalodcbkljoaaGreatDoor
open Go.RowKit
def cZ (n : Int) : List Value := [.int .i64 n]
theorem cZ_length (n : Int) : (cZ n).length = 1 := rfl
theorem cZ_one (n : Int) : ∀ u ∈ cZ n, u.oneCell' = true := by
  intro u hu
  simp only [cZ, List.mem_cons, List.not_mem_nil, or_false] at hu
  subst hu
  rfl
theorem rowZ : (Tryz.prog.info? 3).map (fun i => (i.zero.map (·.cells.size), i.size, i.bytes)) = some (some 1, 1, 8) := by kernel_rfl
theorem underZs : Tryz.prog.underlying 30 = some (.slice 3) := Tryz.underlying30
theorem rowId : (Tryz.prog.info? 37).map (fun i => (i.zero.map (·.cells.size), i.size, i.bytes)) = some (some 32, 32, 32) := by kernel_rfl
theorem underIds : Tryz.prog.underlying 29 = some (.slice 37) := Tryz.underlying29
@[go_sem ↓] theorem bs29 (n : Nat) (parts : Array (Nat × Value)) : Instr.buildSlice 29 n parts = bsA 29 n parts := rfl
@[go_sem] theorem run_bs29_1 (w : World) (x : Id) : (bsA 29 1 #[(0, vI x)]).run Tryz.prog w = .ok (.slice (some ⟨w.heap.size, 0, none⟩) 1 1) (w.alloc (.cells (aI x) 37)) := by
  obtain ⟨i, z, h1, h2, h3⟩ := info_of rowId
  have h := run_bsA (P := Tryz.prog) w vI 29 37 i z 32 underIds h1 h2 h3 (fun x => by show (aI x).size = 32; simp [aI, cI_length]) [x] (by simp)
  have e : (([x] : List Id).flatMap fun x => (vI x).cells.toList) = cI x := by simp [vI, Value.cells]
  rw [e] at h
  exact h
theorem sl_newI (w : World) (y : Id) : Sl (w.alloc (.cells (aI y) 37)) cI (some ⟨w.heap.size, 0, none⟩) [y] := by
  refine fun _ => ⟨_, rfl, ?_⟩
  have e : [y].flatMap cI = cI y := by simp
  rw [e]
  exact at_new w (cI y) _ _ rfl
theorem sl_newZ (w : World) (n : Int) : Sl (w.alloc (.cells #[.int .i64 n] 3)) cZ (some ⟨w.heap.size, 0, none⟩) [n] := by
  refine fun _ => ⟨_, rfl, ?_⟩
  exact at_new w (cZ n) 3 _ rfl
def idsL (l : List It) : List Id := l.map fun x => x.id
def szL (l : List It) : List Int := l.map fun x => (x.text.size : Int)
/-- What Index returns. -/
def IdxR (r : Except (Int × Nat) (List It)) (w : World) (e : Ending) (w' : World) : Prop :=
  ∃ A c B d, e = .returned (.tuple #[.slice A (unpL r).length c, .slice B (unpL r).length d, .int .i64 (unpE r)]) ∧ Sl w' cI A (idsL (unpL r)) ∧ Sl w' cZ B (szL (unpL r)) ∧ Below w.heap.size w w'
theorem unp_e0 {s : List UInt8} {e : Int} {k : Nat} (h : unpackP s = .error (e, k)) : e ≠ 0 := by
  have hi : ∀ (n a : Nat) {e : Int} {k : Nat}, itemsP s n a = .error (e, k) → e ≠ 0 := by
    intro n
    induction n with
    | zero => intro a e k h; cases h
    | succ n ih =>
      intro a e k h
      unfold itemsP at h
      split at h
      · rename_i er hi
        obtain ⟨e1, k1⟩ := er
        cases h
        exact itemP_err' hi
      · rename_i x b hx
        split at h
        · rename_i er hi
          obtain ⟨e1, k1⟩ := er
          cases h
          exact ih b hi
        · cases h
  unfold unpackP at h
  split at h
  · cases h
    decide
  · split at h
    · rename_i er hf
      cases h
      unfold firstP at hf
      split at hf
      · cases hf
        decide
      · split at hf
        · cases hf
        · cases hf
          decide
    · split at h
      · rename_i er hs
        obtain ⟨e1, k1⟩ := er
        cases h
        exact hi _ _ hs
      · split at h
        · rename_i er hl
          cases h
          unfold lastP at hl
          split at hl
          · cases hl
            decide
          · split at hl
            · cases hl
              decide
            · split at hl
              · cases hl
                decide
              · cases hl
        · cases h
set_option maxRecDepth 100000 in
set_option maxHeartbeats 6400000 in
theorem index_s (s : ByteArray) (w : World) (hL : Laid w) (hsz : s.size ≤ 1073741824) : Calls Tryz.prog 11 #[.string s] w (IdxR (unpackP (bl s)) w) := by
  have HU := Lib.hid (unpack_s s w hL hsz)
  cases hr : unpackP (bl s) with
  | error er =>
    obtain ⟨e, k⟩ := er
    rw [hr] at HU
    have he := unp_e0 hr
    have hei : (e != 0) = true := by simpa using he
    clear hr hL hsz he
    go_enter Tryz.func11, Tryz.ntmps11
    go_wp2_with (go_at_call 9; refine HU.out.mono ?_; rintro en w2 ⟨A, c, rfl, -, -, hb⟩; rw [show unpL (.error (e, k)) = [] from rfl, show unpE (.error (e, k)) = e from rfl]; have H2 := Lib.hid hb; clear hb)
    go_ret3
    exact ⟨none, 0, none, 0, rfl, Sl.nil _ _ _, Sl.nil _ _ _, H2.out⟩
  | ok l =>
    rw [hr] at HU
    have HN := Lib.hid (unpackP_back hr).2.1
    clear hr hL hsz
    obtain ⟨n, hn⟩ : ∃ n, l.length = n := ⟨_, rfl⟩
    have HL := Lib.hid hn
    go_enter Tryz.func11, Tryz.ntmps11
    go_wp2_with (go_at_call 9; refine HU.out.mono ?_; rintro en w2 ⟨A, c, rfl, hc, hs, hb⟩; rw [show unpL (.ok l) = l from rfl, show unpE (.ok l) = 0 from rfl, HL.out]; have H2 := Lib.hid (show Sl w2 cX A l ∧ Below w.heap.size w w2 from ⟨hs, hb⟩); clear hc hs hb)
    clear hn
    go_loopw [2, 3, 20] (fun v1 v2 i wr => ∃ t : Nat, t ≤ n ∧ i = .int .i64 (t : Int) ∧ Own wr w2.heap.size 37 32 cI v1 (idsL (l.take t)) ∧ Own wr w2.heap.size 3 1 cZ v2 (szL (l.take t)) ∧ (∀ k, v2.ownBlock = some k → v1.ownBlock ≠ some k) ∧ Below w2.heap.size w2 wr) (fun _ _ i _ => n - (intOf i).toNat)
    case atStart => exact ⟨0, Nat.zero_le _, rfl, Own.nil _ _ _ _ _, Own.nil _ _ _ _ _, (fun k hk => by cases hk), Below.refl _ _⟩
    case round =>
      obtain ⟨t, ht, rfl, ho1, ho2, hne, hb2⟩ := hrel
      have hn1 := HN.out
      rw [HL.out] at hn1
      by_cases hlt : t < n
      · have hti : (t : Int) < (n : Int) := by omega
        have ht1 : (t : Int) < 1000 := by omega
        have hlt2 : t < l.length := by rw [HL.out]; exact hlt
        obtain ⟨ad, rfl, hat⟩ := Sl.at_ cX_length (H2.out.1.keep hb2) hlt2
        obtain ⟨x, hx⟩ : ∃ x, l[t] = x := ⟨_, rfl⟩
        rw [hx] at hat
        have hok := hat.ok
        have hrd := hat.rd
        rw [cX_length] at hok hrd
        change rdA wr (ad.add (t * 33)) 33 = vX x at hrd
        obtain ⟨W3, hW3⟩ : ∃ W3, wr.alloc (.cells (aX x) 64) = W3 := ⟨_, rfl⟩
        obtain ⟨g, hg⟩ : ∃ g, wr.heap.size = g := ⟨_, rfl⟩
        have R3 : Row W3 g (cX x) 64 := by rw [← hW3, ← hg]; exact Row.new wr (cX x) _
        obtain ⟨-, ⟨r1, r2⟩, -⟩ := rowX R3
        have HI := Lib.hid (show idsL (l.take t) ++ [x.id] = idsL (l.take (t + 1)) ∧ szL (l.take t) ++ [(x.text.size : Int)] = szL (l.take (t + 1)) ∧ (idsL (l.take t)).length = t ∧ (szL (l.take t)).length = t from by
          rw [List.take_succ_eq_append_getElem hlt2, hx]
          simp only [idsL, szL, List.map_append, List.map_cons, List.map_nil, List.length_map, List.length_take]
          exact ⟨by trivial, by trivial, by omega, by omega⟩)
        have H3 := Lib.hid (show Own W3 w2.heap.size 37 32 cI u2 (idsL (l.take t)) ∧ Own W3 w2.heap.size 3 1 cZ u3 (szL (l.take t)) ∧ (∀ k, u3.ownBlock = some k → u2.ownBlock ≠ some k) ∧ Below w2.heap.size w2 W3 ∧ Row W3 g (cX x) 64 ∧ (∀ k, u2.ownBlock = some k → k ≠ g) from by
          refine ⟨?_, ?_, hne, ?_, R3, fun k hk => by have := (ho1.lt k hk).2; omega⟩
          · rw [← hW3]; exact ho1.keep (below_alloc _ _)
          · rw [← hW3]; exact ho2.keep (below_alloc _ _)
          · rw [← hW3]; exact Below.step hb2 (below_alloc _ _))
        have HT := Lib.hid (show t ≤ 1000 by omega)
        obtain ⟨p, hp⟩ : ∃ p, idsL (l.take t) = p := ⟨_, rfl⟩
        obtain ⟨q, hq⟩ : ∃ q, szL (l.take t) = q := ⟨_, rfl⟩
        rw [hp, hq] at HI H3
        clear ho1 ho2 hne hb2 hat hx R3 hp hq hn1
        go_wp2_with (at_builtin; refine wpList_append_slat _ rfl (.tmp 24) (.tmp 27) 29 rfl w2.heap.size 37 32 32 cI underIds rowId (by decide) cI_length cI_one u2 p rfl (H3.out.1.keep (below_alloc _ _)) (some ⟨W3.heap.size, 0, none⟩) 1 1 [x.id] rfl rfl (sl_newI W3 x.id) (by have := HI.out.2.2.1; have := HT.out; omega) (by have := HI.out.2.2.1; have := HT.out; omega) (by have := H3.out.2.2.2.1.size; simp; omega) ?_)
        intro v4 w4 ho4 hg4 hat4
        have hbA := below_alloc W3 (.cells (aI x.id) 37)
        have hbW := Below.step H3.out.2.2.2.1 hbA
        have R4 : Row w4 g (cX x) 64 := (H3.out.2.2.2.2.1.keep hbA).same (hg4.block g (Nat.lt_of_lt_of_le H3.out.2.2.2.2.1.lt hbA.size) (fun e => H3.out.2.2.2.2.2 g e.symm rfl))
        have r3 : w4.cell? ⟨g, 32, none⟩ = some (.string x.text) := (rowX R4).2.2
        have H4 := Lib.hid (show Own w4 w2.heap.size 37 32 cI v4 (p ++ [x.id]) ∧ Own w4 w2.heap.size 3 1 cZ u3 q ∧ (∀ k, u3.ownBlock = some k → v4.ownBlock ≠ some k) ∧ Below w2.heap.size w2 w4 from
          ⟨ho4, (H3.out.2.1.keep hbA).beside hg4 H3.out.2.2.1, apart_grew (H3.out.2.1.keep hbA) H3.out.2.2.1 (by simpa using hat4), Own.grew (H3.out.1.keep hbA) hg4 hbW (Nat.le_refl _) hbW.size⟩)
        clear ho4 hg4 hat4 hbA hbW R4 r1 r2
        go_wp2_with (at_builtin; refine wpList_append_slat _ rfl (.tmp 29) (.tmp 33) 30 rfl w2.heap.size 3 1 8 cZ underZs rowZ (by decide) cZ_length cZ_one u3 q rfl (H4.out.2.1.keep (below_alloc _ _)) (some ⟨w4.heap.size, 0, none⟩) 1 1 [(x.text.size : Int)] rfl rfl (sl_newZ w4 _) (by have := HI.out.2.2.2; have := HT.out; omega) (by have := HI.out.2.2.2; have := HT.out; omega) (by have := H4.out.2.2.2.size; simp; omega) ?_)
        intro v5 w5 ho5 hg5 hat5
        have hbB := below_alloc w4 (.cells #[.int .i64 (x.text.size : Int)] 3)
        have hbX := Below.step H4.out.2.2.2 hbB
        have H5 := Lib.hid (show Own w5 w2.heap.size 37 32 cI v4 (idsL (l.take (t + 1))) ∧ Own w5 w2.heap.size 3 1 cZ v5 (szL (l.take (t + 1))) ∧ (∀ k, v5.ownBlock = some k → v4.ownBlock ≠ some k) ∧ Below w2.heap.size w2 w5 from
          ⟨by rw [← HI.out.1]; exact (H4.out.1.keep hbB).beside hg5 (apart_symm H4.out.2.2.1), by rw [← HI.out.2.1]; exact ho5, apart_symm (apart_grew (H4.out.1.keep hbB) (apart_symm H4.out.2.2.1) (by simpa using hat5)), Own.grew (H4.out.2.1.keep hbB) hg5 hbX (Nat.le_refl _) hbX.size⟩)
        clear ho5 hg5 hat5 hbB hbX r3
        go_wp2
        go_roundw
        case rel => exact ⟨t + 1, hlt, by go_num, H5.out.1, H5.out.2.1, H5.out.2.2.1, H5.out.2.2.2⟩
        case measure => simp [intOf]; omega
      · obtain rfl : t = n := by omega
        have htk : l.take t = l := List.take_of_length_le (by rw [HL.out]; exact Nat.le_refl _)
        rw [htk] at ho1 ho2
        obtain ⟨A1, c1, rfl, -, hs1⟩ := ho1.sl
        obtain ⟨A2, c2, rfl, -, hs2⟩ := ho2.sl
        have HF := Lib.hid (And.intro hs1 (And.intro hs2 (Below.step H2.out.2 hb2)))
        have hl1 : (idsL l).length = t := by rw [idsL, List.length_map, HL.out]
        have hl2 : (szL l).length = t := by rw [szL, List.length_map, HL.out]
        rw [hl1, hl2]
        clear ho1 ho2 hne hb2 hs1 hs2 htk hl1 hl2 hn1
        go_wp2
        go_ret3
        refine ⟨A1, c1, A2, c2, ?_, HF.out.1, HF.out.2.1, HF.out.2.2⟩
        rw [show unpL (.ok l) = l from rfl, HL.out]
        rfl
end Go.Proofs.YtecalodcbkljoaaGreatDoor
