/- What Pack checks: the number of items, the length of each, the length of all. strings.Builder at this translation: copyCheck, Len, WriteByte, WriteString, String; with what else stays. Pack: the text of a batch. -/
import Derived.Test.YtecalodcbkljoaaGreatDoorMIt3
import Derived.Test.YtecalodcbkljoaaGreatDoorMRow
import Derived.Test.YtecalodcbkljoaaGreatDoorMSkip
import Derived.Test.YtecalodcbkljoaaGreatDoorShelf
import Derived.Laws.Externs
import Derived.Lib.AppendStr
import Derived.Lib.UnsafeStr
import Derived.Maps.AppendAt
namespace Go.Proofs.YtecalodcbkljoaaGreatDoor
open Go.RowKit
theorem sumN_take (l : List It) (t : Nat) (h : t < l.length) : sumN (l.take (t + 1)) = sumN (l.take t) + itN l[t] := by
  rw [List.take_succ_eq_append_getElem h]
  simp only [sumN, List.map_append, List.sum_append, List.map_cons, List.map_nil, List.sum_cons, List.sum_nil, Nat.add_zero]
theorem sumN_bound (l : List It) (h : ∀ x ∈ l, x.text.size ≤ 65536) : sumN l ≤ l.length * 65700 := by
  induction l with
  | nil => simp [sumN]
  | cons x r ih =>
    have h1 := ih (fun y hy => h y (List.mem_cons_of_mem _ hy))
    have h2 := h x List.mem_cons_self
    have h3 : itN x ≤ 65700 := by
      unfold itN
      have := itoa_len 10 x.text.size (by omega) (by omega)
      omega
    simp only [sumN, List.map_cons, List.sum_cons, List.length_cons] at h1 ⊢
    omega
set_option maxRecDepth 100000 in
set_option maxHeartbeats 3200000 in
theorem check_l (A : Option Addr) (c : Nat) (l : List It) (r : Nat × Int) (hr : chkB l = r) (w : World) (hL : Laid w) (hs : Sl w cX A l) (hn : l.length ≤ 1073741824) (hx : ∀ x ∈ l, x.text.size ≤ 1073741824) :
    Calls Tryz.prog 38 #[.slice A l.length c] w fun e w' => e = .returned (.tuple #[.int .i64 (r.1 : Int), .int .i64 r.2]) ∧ Below w.heap.size w w' := by
  have HX := Lib.hid (And.intro hL (And.intro hs hx))
  by_cases h1 : 1000 < l.length
  · have hr2 : r = (0, 9) := by rw [← hr]; unfold chkB; rw [if_pos h1]
    subst hr2
    have h2 : (1000 : Int) < (l.length : Int) := by omega
    clear hL hs hx hr
    go_enter Tryz.func38, Tryz.ntmps38
    go_wp2
    go_ret2
    exact ⟨rfl, Below.refl _ _⟩
  · have HR := Lib.hid hr
    have HN := Lib.hid (show l.length ≤ 1000 by omega)
    have h2 : ¬ (1000 : Int) < (l.length : Int) := by omega
    clear hL hs hx hr hn h1
    go_enter Tryz.func38, Tryz.ntmps38
    go_wp2
    clear h2
    go_loopw [4, 13] (fun v i wr => ∃ t : Nat, t ≤ l.length ∧ i = .int .i64 t ∧ v = .int .i64 (sumN (l.take t) : Int) ∧ (∀ x ∈ l.take t, x.text.size ≤ 65536) ∧ Below w.heap.size w wr) (fun _ i _ => l.length - (intOf i).toNat)
    case atStart => exact ⟨0, Nat.zero_le _, rfl, rfl, fun x hx => by simp at hx, Below.refl _ _⟩
    case round =>
      obtain ⟨t, ht, rfl, rfl, hall, hb⟩ := hrel
      have HB := Lib.hid hb
      have HA := Lib.hid hall
      clear hb hall
      by_cases hlt : t < l.length
      · obtain ⟨ad, rfl, hat⟩ := Sl.at_ cX_length (HX.out.2.1.keep HB.out) hlt
        obtain ⟨x, hxe⟩ : ∃ x, l[t] = x := ⟨_, rfl⟩
        rw [hxe] at hat
        have hok := hat.ok
        have hrd := hat.rd
        rw [cX_length] at hok hrd
        change rdA wr (ad.add (t * 33)) 33 = vX x at hrd
        have hlti : (t : Int) < (l.length : Int) := by omega
        have hT : (t : Int) < 1000 := by have := HN.out; omega
        have HM := Lib.hid (show x.text.size ≤ 1073741824 from HX.out.2.2 x (by rw [← hxe]; exact List.getElem_mem _))
        have HXE := Lib.hid hxe
        clear hat hxe
        by_cases hbig : 65536 < x.text.size
        · have hbi : (65536 : Int) < (x.text.size : Int) := by omega
          have hr2 : r = (0, 5) := by
            rw [← HR.out]; unfold chkB
            have h1 := HN.out
            rw [if_neg (by omega), if_pos]
            rw [List.any_eq_true]
            exact ⟨x, by rw [← HXE.out]; exact List.getElem_mem _, by simpa using hbig⟩
          subst hr2
          have H2 := Lib.hid (Below.step HB.out (below_alloc wr (.cells (aX x) 64)))
          go_wp2
          go_ret2
          exact ⟨rfl, H2.out⟩
        · have hbi : ¬ (65536 : Int) < (x.text.size : Int) := by omega
          have HS := Lib.hid (show sumN (l.take (t + 1)) = sumN (l.take t) + itN x by rw [sumN_take l t hlt, HXE.out])
          have HBD := Lib.hid (sumN_bound (l.take t) HA.out)
          have HI := Lib.hid (show itN x ≤ 70000 by unfold itN; have := itoa_len 10 x.text.size (by omega) (by omega); omega)
          have hw : IntKind.i64.wrap ((sumN (l.take t) : Int) + (itN x : Int)) = (sumN (l.take (t + 1)) : Int) := (IntWalk.i64_in _ (by
            have h1 := HBD.out
            have h2 := HI.out
            have h3 := HN.out
            rw [List.length_take] at h1
            omega)).trans (by have := HS.out; omega)
          have HA2 := Lib.hid (show ∀ y ∈ l.take (t + 1), y.text.size ≤ 65536 from by
            intro y hy
            rw [List.take_succ_eq_append_getElem hlt, List.mem_append] at hy
            rcases hy with hy | hy
            · exact HA.out y hy
            · simp only [List.mem_cons, List.not_mem_nil, or_false] at hy
              rw [hy, HXE.out]
              omega)
          have H2 := Lib.hid (Below.step HB.out (below_alloc wr (.cells (aX x) 64)))
          clear hbig
          go_wp2_with (go_at_call 50; refine (bytes_i x _ (HX.out.1.keep H2.out) HM.out).mono ?_; rintro e w3 ⟨rfl, hb3⟩; have H3 := Lib.hid (Below.step H2.out hb3); clear hb3)
          go_roundw
          case rel => exact ⟨t + 1, hlt, by go_num, rfl, HA2.out, H3.out⟩
          case measure => simp [intOf]; omega
      · obtain rfl : t = l.length := by omega
        have htk : l.take l.length = l := List.take_length
        rw [htk] at HA
        have HBD := Lib.hid (sumN_bound l HA.out)
        obtain ⟨n, hn⟩ : ∃ n, sizeN l.length (sumN l) = n := ⟨_, rfl⟩
        have HNN := Lib.hid hn
        have HSZ := Lib.hid (fun W hW => size_l l.length (sumN l) (by have := HN.out; omega) (by have := HBD.out; have := HN.out; omega) W hW)
        rw [hn] at HSZ
        have hany : (l.any fun x => decide (65536 < x.text.size)) = false := by
          rw [List.any_eq_false]
          intro y hy
          have := HA.out y hy
          simp
          omega
        have hr2 : r = if 4194304 < n then (0, 5) else (n, 0) := by
          rw [← HR.out]; unfold chkB
          have h1 := HN.out
          rw [if_neg (by omega), hany, hn]
          rfl
        clear hn hany hlt
        rw [htk]
        by_cases hbig : 4194304 < n
        · rw [if_pos hbig] at hr2
          subst hr2
          have hbi : (4194304 : Int) < (n : Int) := by omega
          go_wp2_with (go_at_call 49; refine (HSZ.out _ (HX.out.1.keep HB.out)).mono ?_; rintro e w3 ⟨rfl, hb3⟩; have H3 := Lib.hid (Below.step HB.out hb3); clear hb3)
          go_ret2
          exact ⟨rfl, H3.out⟩
        · rw [if_neg hbig] at hr2
          subst hr2
          have hbi : ¬ (4194304 : Int) < (n : Int) := by omega
          go_wp2_with (go_at_call 49; refine (HSZ.out _ (HX.out.1.keep HB.out)).mono ?_; rintro e w3 ⟨rfl, hb3⟩; have H3 := Lib.hid (Below.step HB.out hb3); clear hb3)
          go_ret2
          exact ⟨rfl, H3.out⟩
set_option maxHeartbeats 800000 in
theorem size_of (A : Option Addr) (c : Nat) (l : List It) (r : Nat × Int) (hr : chkB l = r) (w : World) (hL : Laid w) (hs : Sl w cX A l) (hn : l.length ≤ 1073741824) (hx : ∀ x ∈ l, x.text.size ≤ 1073741824) :
    Calls Tryz.prog 24 #[.slice A l.length c] w fun e w' => e = .returned (.int .i64 (r.1 : Int)) ∧ Below w.heap.size w w' := by
  have H := Lib.hid (check_l A c l r hr w hL hs hn hx)
  clear hL hs hn hx hr
  go_enter Tryz.func24, Tryz.ntmps24
  go_wp2_with (go_at_call 38; refine H.out.mono ?_; rintro e w3 ⟨rfl, hb3⟩; have H3 := Lib.hid hb3; clear hb3)
  go_ret
  exact ⟨rfl, H3.out⟩
end Go.Proofs.YtecalodcbkljoaaGreatDoor
namespace Go.Proofs.YtecalodcbkljoaaGreatDoor
open Go.RowKit
theorem liesBd : liesAt Tryz.prog Tryz.prog.depth 84 (2 / Tryz.prog.cellsOf 84) 0 84 1 = true := by kernel_rfl
theorem sizeBd : (Tryz.prog.info? 84).map (·.size) = some 2 := by kernel_rfl
theorem infoBy : (Tryz.prog.info? 5).map (fun i => (i.zero, i.size, i.bytes)) = some (some (.int .u8 0), 1, 1) := by kernel_rfl
section
variable {P : Program} (w : World)
theorem append_string_at (base : Nat) (t u ty e : TypeId) (i : TypeInfo) (ht : P.underlying t = some (.slice e)) (hu : P.underlying u = some .string) (hi : P.info? e = some i) (hz : i.zero = some (.int .u8 0)) (hsize : i.size = 1) (hby : i.bytes = 1)
    (v : Value) (n : Nat) (xs : List Value) (hown : w.ownsRow base e 1 v n xs) (s : ByteArray) (h63 : n + s.size ≤ 1000000000) {v' : Value} {w' : World} (hr : (Builtin.append_ #[t, u] ty #[v, .string s]).run P w = .ok v' w') (hnil : v' = .slice none 0 0 ↔ v = .slice none 0 0 ∧ s.size = 0) : v'.ownBlock = v.ownBlock ∨ v'.ownBlock = some w.heap.size := by
  rcases hown.2 with ⟨rfl, rfl⟩ | ⟨g, cap, cur, rfl, hbg, hg, hnc, hcm, hcs, htake⟩
  · by_cases hm : s.size = 0
    · left
      rw [hnil.2 ⟨rfl, hm⟩]
    · right
      have h2 := run_append_nil_string (P := P) w t u ty e i (.int .u8 0) ht hu hi hz s (by omega) (by omega) (by rw [hby]; omega)
      rw [hr] at h2
      injection h2 with h2 _
      rw [h2]
      rfl
  · have hxl : xs.length = n := by simpa using hown.1
    by_cases hroom : n + s.size ≤ cap
    · left
      have hcs' : cur.size = cap := by simpa using hcs
      have h2 := Lib.run_append_room_string (P := P) w t u ty e i ht hu hi hsize g n cap cur hg s hroom (by omega)
      rw [hr] at h2
      injection h2 with h2 _
      rw [h2]
      rfl
    · right
      have holds : ∀ j u, xs[j]? = some u → w.cell? ((⟨g, 0, none⟩ : Addr).add j) = some u := hown.cells (g := g) rfl
      have h2 := Lib.run_append_grow_string (P := P) w t u ty e i (.int .u8 0) ht hu hi hz ⟨g, 0, none⟩ n cap xs (by rw [hsize]; simpa using hxl) holds s (by omega) (by omega) (by rw [hby]; exact growslice_fits (by omega) (by omega))
      rw [hr] at h2
      injection h2 with h2 _
      rw [h2]
      rfl
theorem wpList_append_str_at {ops : Array Oper} {rest : List Oper} {o : Oper} {a : Act} {Q : Exit → Act → World → Prop} (hgd : o.guard = none) (sl x : Operand) (t u : TypeId)
    (ho : o.op = .call { callee := .builtin .append, args := #[sl, x], argTypes := #[t, u] })
    (base : Nat) (e : TypeId) (ht : P.underlying t = some (.slice e)) (hu : P.underlying u = some .string) (hi : (P.info? e).map (fun i => (i.zero, i.size, i.bytes)) = some (some (.int .u8 0), 1, 1))
    (v : Value) (n : Nat) (xs : List Value) (hs : a.eval sl = v) (hown : w.ownsRow base e 1 v n xs) (s : ByteArray) (hx : a.eval x = .string s) (h63 : n + s.size ≤ 1000000000) (hbase : base ≤ w.heap.size)
    (h : ∀ v' w', w'.ownsRow base e 1 v' (n + s.size) (xs ++ Lib.strCells s) → w.grownBy w' v.ownBlock → (v'.ownBlock = v.ownBlock ∨ v'.ownBlock = some w.heap.size) → wpList P ops Q rest (a.put o.dst v') w') : wpList P ops Q (o :: rest) a w := by
  refine wpList_plain hgd fun K hK => ?_
  cases hq : P.info? e with
  | none => rw [hq] at hi; cases hi
  | some i =>
    simp only [hq, Option.map_some, Option.some.injEq, Prod.mk.injEq] at hi
    obtain ⟨hz, hsize, hby⟩ := hi
    obtain ⟨v', w', hr, h2, h3, h4⟩ := Lib.run_append_own_string (P := P) w base t u o.type e i ht hu hq hz hsize hby v n xs hown s (by unfold maxLen; omega) (by omega) hbase
    unfold Oper.wp execOp
    simp only [ho, resolve, invoke, builtin, Sem.run_bind, Sem.run_pure, Result.andThen_ok, List.map_toArray, List.map_cons, List.map_nil, hs, hx, hr]
    exact hK _ _ (h v' w' h2 h3 (append_string_at (P := P) w base t u o.type e i ht hu hq hz hsize hby v n xs hown s h63 hr h4))
theorem wpList_append_byte_at {ops : Array Oper} {rest : List Oper} {o : Oper} {a : Act} {Q : Exit → Act → World → Prop} (hgd : o.guard = none) (sl x : Operand) (t : TypeId)
    (ho : o.op = .call { callee := .builtin .append, args := #[sl, x], argTypes := #[t, t] })
    (base : Nat) (e : TypeId) (ht : P.underlying t = some (.slice e)) (hi : (P.info? e).map (fun i => (i.zero, i.size, i.bytes)) = some (some (.int .u8 0), 1, 1))
    (v : Value) (n : Nat) (xs : List Value) (hs : a.eval sl = v) (hown : w.ownsRow base e 1 v n xs) (ad : Addr) (cc : Int) (hx : a.eval x = .slice (some ad) 1 1) (hc : w.cell? ad = some (.int .u8 cc)) (h63 : n + 1 ≤ 1000000000) (hbase : base ≤ w.heap.size)
    (h : ∀ v' w', w'.ownsRow base e 1 v' (n + 1) (xs ++ [.int .u8 cc]) → w.grownBy w' v.ownBlock → (v'.ownBlock = v.ownBlock ∨ v'.ownBlock = some w.heap.size) → wpList P ops Q rest (a.put o.dst v') w') : wpList P ops Q (o :: rest) a w := by
  refine wpList_plain hgd fun K hK => ?_
  cases hq : P.info? e with
  | none => rw [hq] at hi; cases hi
  | some i =>
    simp only [hq, Option.map_some, Option.some.injEq, Prod.mk.injEq] at hi
    obtain ⟨hz, hsize, hby⟩ := hi
    obtain ⟨v', w', hr, h2, h3, _, h5⟩ := run_append_own_at (P := P) w base t o.type e i (.int .u8 0) 1 1 ht hq hz hsize hby rfl (by decide) v n xs hown ad 1 1 [.int .u8 cc] rfl (by
      intro j u hj
      match j, hj with
      | 0, hj => simp at hj; subst hj; simpa [Addr.add] using hc) (by intro u hu; simp at hu; subst hu; rfl) (by unfold maxLen; omega) (by omega) hbase
    unfold Oper.wp execOp
    simp only [ho, resolve, invoke, builtin, Sem.run_bind, Sem.run_pure, Result.andThen_ok, List.map_toArray, List.map_cons, List.map_nil, hs, hx, hr]
    exact hK _ _ (h v' w' h2 h3 h5)
end
/-- What a call of a builder turns. -/
structure Turn (g : Nat) (v v' : Value) (w w' : World) : Prop where
  os : w'.os = w.os
  tape : w'.tape = w.tape
  output : w'.output = w.output
  size : w.heap.size ≤ w'.heap.size
  out : ∀ k, k < w.heap.size → k ≠ g → some k ≠ v.ownBlock → w'.heap[k]? = w.heap[k]?
  at_ : v'.ownBlock = v.ownBlock ∨ ∃ k, v'.ownBlock = some k ∧ w.heap.size ≤ k
/-- A builder at block b (nothing of it below B): its pointer, its slice, its bytes. -/
structure BdR (B b : Nat) (l : List UInt8) (q : Option Addr) (v : Value) (w : World) : Prop where
  row : Row w b [.pointer q, v] 84
  own : w.ownsRow B 5 1 v l.length (Lib.byteCells l)
  ne : v.ownBlock ≠ some b
  q : q = none ∨ q = some ⟨b, 0, none⟩
  le : B ≤ b
section
variable {B b : Nat} {l : List UInt8} {q : Option Addr} {v v' : Value} {w w' : World}
theorem BdR.sl (h : BdR B b l q v w) : ∃ A c, v = .slice A l.length c := by
  rcases h.own.2 with ⟨hv, h0⟩ | ⟨k, cap, cur, hv, _⟩
  · exact ⟨none, 0, by rw [hv, h0]⟩
  · exact ⟨_, _, hv⟩
theorem BdR.low (h : BdR B b l q v w) (k : Nat) (hk : v.ownBlock = some k) : B ≤ k ∧ k < w.heap.size := by
  rcases h.own.2 with ⟨rfl, _⟩ | ⟨g, cap, cur, rfl, h1, h2, _⟩
  · cases hk
  · obtain rfl : g = k := by simpa [Value.ownBlock] using hk
    exact ⟨h1, (Array.getElem?_eq_some_iff.1 h2).1⟩
theorem Turn.refl (g : Nat) (v : Value) (w : World) : Turn g v v w w := ⟨rfl, rfl, rfl, Nat.le_refl _, fun _ _ _ _ => rfl, Or.inl rfl⟩
theorem Turn.trans {g : Nat} {v'' : Value} {w'' : World} (h : Turn g v v' w w') (k : Turn g v' v'' w' w'') : Turn g v v'' w w'' :=
  ⟨k.os.trans h.os, k.tape.trans h.tape, k.output.trans h.output, Nat.le_trans h.size k.size, fun j hj hg hv => (k.out j (Nat.lt_of_lt_of_le hj h.size) hg (fun e => by
    rcases h.at_ with e2 | ⟨m, e2, e3⟩
    · exact hv (e.trans e2)
    · rw [e2] at e; have := Option.some.inj e; omega)).trans (h.out j hj hg hv), by
    rcases k.at_ with e | ⟨m, e, e3⟩
    · rcases h.at_ with e2 | ⟨m, e2, e3⟩
      · exact Or.inl (e.trans e2)
      · exact Or.inr ⟨m, e.trans e2, e3⟩
    · exact Or.inr ⟨m, e, Nat.le_trans h.size e3⟩⟩
theorem Turn.set (w : World) (g k : Nat) (u v : Value) : Turn g v v w (w.setCell ⟨g, k, none⟩ u) := ⟨rfl, rfl, rfl, by simp [World.setCell], fun j _ hj _ => heap_set_other w g k u j hj, Or.inl rfl⟩
theorem BdR.keep (h : BdR B b l q v w) (hb : Below w.heap.size w w') : BdR B b l q v w' := ⟨h.row.keep hb, h.own.kept (row := none) ⟨hb.os, hb.tape, hb.output, hb.size, fun k hk _ => hb.block k hk⟩ (by cases v.ownBlock with | none => exact Or.inl rfl | some _ => exact Or.inr (by simp)), h.ne, h.q, h.le⟩
theorem BdR.set0 (h : BdR B b l q v w) : BdR B b l (some ⟨b, 0, none⟩) v (w.setCell ⟨b, 0, none⟩ (.pointer (some ⟨b, 0, none⟩))) :=
  ⟨h.row.set 0 (.pointer (some ⟨b, 0, none⟩)), h.own.kept (row := some b) ⟨rfl, rfl, rfl, by simp [World.setCell], fun k _ hk => heap_set_other w b 0 _ k (fun e => hk (by rw [e]))⟩ (Or.inr h.ne), h.ne, Or.inr rfl, h.le⟩
theorem BdR.new (w : World) : BdR w.heap.size w.heap.size [] none (.slice none 0 0) (w.alloc (.cells #[.pointer none, .slice none 0 0] 84)) :=
  ⟨Row.new w [.pointer none, .slice none 0 0] 84, ⟨rfl, Or.inl ⟨rfl, rfl⟩⟩, by simp [Value.ownBlock], Or.inl rfl, Nat.le_refl _⟩
theorem BdR.at (h : BdR B b l q v w) : Lib.IsBuilder 84 5 B b (Lib.byteCells l) w := by
  have h1 : Lib.BuilderAt 84 5 B b (.pointer q) (Lib.byteCells l) w := ⟨h.le, v, h.row, by rw [show (Lib.byteCells l).length = l.length by simp [Lib.byteCells]]; exact h.own, h.ne⟩
  rcases h.q with rfl | rfl
  · exact Or.inl h1
  · exact Or.inr h1
end
set_option maxHeartbeats 1000000 in
set_option maxRecDepth 100000 in
theorem copy_used (b : Nat) (w : World) (h0 : w.cell? ⟨b, 0, none⟩ = some (.pointer (some ⟨b, 0, none⟩))) :
    Calls Tryz.prog 60 #[.pointer (some ⟨b, 0, none⟩)] w fun e w' => e = .returned (.tuple #[]) ∧ w' = w := by
  obtain ⟨j, hj, _⟩ := Option.map_eq_some_iff.1 sizeBd
  go_enter Tryz.func60, Tryz.ntmps60
  go_wp2
  rw [Lib.run_neq_ptr_same w _ Tryz.underlying82 hj]
  go_wp2
  go_end0
  exact ⟨rfl, rfl⟩
set_option maxHeartbeats 1000000 in
set_option maxRecDepth 100000 in
theorem copy_fresh (b : Nat) (w : World) (h0 : w.cell? ⟨b, 0, none⟩ = some (.pointer none)) (hsh : w.shape? b = some (84, 2)) (hfz : w.frozen? ⟨b, 0, none⟩ = false) :
    Calls Tryz.prog 60 #[.pointer (some ⟨b, 0, none⟩)] w fun e w' => e = .returned (.tuple #[]) ∧ w' = w.setCell ⟨b, 0, none⟩ (.pointer (some ⟨b, 0, none⟩)) := by
  obtain ⟨j, hj, hjs⟩ := Option.map_eq_some_iff.1 sizeBd
  go_enter Tryz.func60, Tryz.ntmps60
  go_wp2
  rw [Lib.run_to_unsafe w ⟨b, 0, none⟩ Tryz.underlying82 Tryz.underlying134 hj (by rw [hjs]; decide) hsh (Nat.zero_lt_succ 1)]
  simp only [Result.andThen]
  rw [Oper.upon_value]
  go_wp2
  rw [run_callFunc_extern Tryz.func80 (by kernel_rfl) (by kernel_rfl) (by kernel_rfl) (e := Extern.AbiNoEscape.same) (by kernel_rfl)]
  rw [Lib.run_noEscape]
  simp only [Result.andThen]
  rw [Oper.upon_value]
  go_wp2
  rw [Lib.run_from_unsafe w ⟨b, 0, none⟩ Tryz.underlying134 Tryz.underlying82 hj hsh liesBd]
  simp only [Result.andThen]
  rw [Oper.upon_value]
  go_wp2
  go_end0
  exact ⟨rfl, rfl⟩
theorem BdR.copy {B b : Nat} {l : List UInt8} {q : Option Addr} {v : Value} {w : World} (h : BdR B b l q v w) : Calls Tryz.prog 60 #[.pointer (some ⟨b, 0, none⟩)] w fun e w' => e = .returned (.tuple #[]) ∧ BdR B b l (some ⟨b, 0, none⟩) v w' ∧ Turn b v v w w' := by
  have hc : w.cell? ⟨b, 0, none⟩ = some (.pointer q) := h.row.cell 0
  rcases h.q with rfl | rfl
  · refine (copy_fresh b w hc (by have := h.row; unfold Row at this; simp [World.shape?, this]) (h.row.fz 0)).mono ?_
    rintro e w' ⟨rfl, rfl⟩
    exact ⟨rfl, h.set0, Turn.set w b 0 _ v⟩
  · refine (copy_used b w hc).mono ?_
    rintro e w' ⟨rfl, rfl⟩
    exact ⟨rfl, h, Turn.refl b v _⟩
theorem BdR.wrote {B b : Nat} {l m : List UInt8} {q : Option Addr} {v : Value} {w1 w2 : World} {A : Option Addr} {n c : Nat} (h : BdR B b l q v w1) (ho : w2.ownsRow B 5 1 (.slice A n c) (l ++ m).length (Lib.byteCells (l ++ m))) (hg : w1.grownBy w2 v.ownBlock) (hat : (Value.slice A n c).ownBlock = v.ownBlock ∨ (Value.slice A n c).ownBlock = some w1.heap.size ∨ (Value.slice A n c).ownBlock = some (w1.heap.size + 1)) :
    BdR B b (l ++ m) q (.slice A n c) (w2.setCell ⟨b, 1, none⟩ (.slice A n c)) ∧ Turn b v (.slice A n c) w1 (w2.setCell ⟨b, 1, none⟩ (.slice A n c)) := by
  have hlt := h.row.lt
  have hrow : Row w2 b [.pointer q, v] 84 := h.row.same (hg.block b hlt (fun e => h.ne e.symm))
  have hne2 : (Value.slice A n c).ownBlock ≠ some b := fun e => by
    rcases hat with e2 | e2 | e2
    · exact h.ne (e2.symm.trans e)
    · rw [e2] at e
      have := Option.some.inj e
      omega
    · rw [e2] at e
      have := Option.some.inj e
      omega
  have hT : Turn b v (.slice A n c) w1 w2 := ⟨hg.os, hg.tape, hg.output, hg.size, fun k hk _ hv => hg.block k hk hv, by
    rcases hat with e2 | e2 | e2
    · exact Or.inl e2
    · exact Or.inr ⟨_, e2, Nat.le_refl _⟩
    · exact Or.inr ⟨_, e2, Nat.le_succ _⟩⟩
  exact ⟨⟨hrow.set 1 _, ho.kept (row := some b) ⟨rfl, rfl, rfl, by simp [World.setCell], fun k _ hk => heap_set_other w2 b 1 _ k (fun e => hk (by rw [e]))⟩ (Or.inr hne2), hne2, h.q, h.le⟩, hT.trans (Turn.set w2 b 1 _ _)⟩
set_option maxRecDepth 100000 in
set_option maxHeartbeats 1600000 in
theorem BdR.str {B b : Nat} {l : List UInt8} {q : Option Addr} {v : Value} {w : World} (h : BdR B b l q v w) (s : ByteArray) (hs : l.length + s.size ≤ 1000000000) (hB : B ≤ w.heap.size) : Calls Tryz.prog 39 #[.pointer (some ⟨b, 0, none⟩), .string s] w fun e w' => e = .returned (.tuple #[.int .i64 (s.size : Int), .nilIface]) ∧ ∃ v', BdR B b (l ++ bl s) (some ⟨b, 0, none⟩) v' w' ∧ Turn b v v' w w' := by
  have HX := Lib.hid (And.intro h (And.intro hs hB))
  clear h hs hB
  have T0 : True := trivial
  go_enter Tryz.func39, Tryz.ntmps39
  go_wp2_with (first
    | (have hh := T0; clear hh T0; go_at_call 60; refine HX.out.1.copy.mono ?_; rintro e w1 ⟨rfl, h1, ht⟩; have H1 := Lib.hid (And.intro h1 ht); have h34 : w1.cell? ⟨b, 1, none⟩ = some v := h1.row.cell 1; clear h1 ht; have T1 : True := trivial)
    | (at_builtin; refine wpList_append_str_at _ rfl _ _ 47 9 rfl B 5 Tryz.underlying47 Tryz.underlying9 infoBy v l.length (Lib.byteCells l) rfl H1.out.1.own s rfl HX.out.2.1 (Nat.le_trans HX.out.2.2 H1.out.2.size) ?_))
  intro v2 w2 ho hg hat
  have g34 : w2.cell? ⟨b, 1, none⟩ = some v := (H1.out.1.row.same (hg.block b H1.out.1.row.lt (fun e => H1.out.1.ne e.symm))).cell 1
  have f34 := (H1.out.1.row.same (hg.block b H1.out.1.row.lt (fun e => H1.out.1.ne e.symm))).fz 1
  obtain ⟨A, n', cap, rfl⟩ : ∃ A n' cap, v2 = .slice A n' cap := by
    rcases ho.2 with ⟨hv, _⟩ | ⟨k, cap, cur, hv, _⟩
    · exact ⟨_, _, _, hv⟩
    · exact ⟨_, _, _, hv⟩
  have H2 := Lib.hid (And.intro ho (And.intro hg hat))
  clear ho hg hat h34
  go_wp2
  go_ret2
  have r := BdR.wrote (m := bl s) H1.out.1 (by
    rw [List.length_append, show Lib.byteCells (l ++ bl s) = Lib.byteCells l ++ Lib.strCells s by simp [Lib.byteCells, Lib.strCells, bl], show (bl s).length = s.size from rfl]
    exact H2.out.1) H2.out.2.1 (H2.out.2.2.imp id Or.inl)
  exact ⟨rfl, .slice A n' cap, r.1, H1.out.2.trans r.2⟩
set_option maxRecDepth 100000 in
set_option maxHeartbeats 1600000 in
theorem BdR.byte {B b : Nat} {l : List UInt8} {q : Option Addr} {v : Value} {w : World} (h : BdR B b l q v w) (c : UInt8) (cc : Int) (hcc : ((c.toNat : Nat) : Int) = cc) (hs : l.length + 1 ≤ 1000000000) (hB : B ≤ w.heap.size) : Calls Tryz.prog 42 #[.pointer (some ⟨b, 0, none⟩), .int .u8 cc] w fun e w' => e = .returned .nilIface ∧ ∃ v', BdR B b (l ++ [c]) (some ⟨b, 0, none⟩) v' w' ∧ Turn b v v' w w' := by
  have HX := Lib.hid (And.intro h (And.intro hs (And.intro hB hcc)))
  clear h hs hB hcc
  have T0 : True := trivial
  go_enter Tryz.func42, Tryz.ntmps42
  go_wp2_with (first
    | (have hh := T0; clear hh T0; go_at_call 60; refine HX.out.1.copy.mono ?_; rintro e w1 ⟨rfl, h1, ht⟩; have H1 := Lib.hid (And.intro h1 ht); have h34 : w1.cell? ⟨b, 1, none⟩ = some v := h1.row.cell 1; clear h1 ht; have T1 : True := trivial)
    | (at_builtin; refine wpList_append_byte_at _ rfl _ _ 47 rfl B 5 Tryz.underlying47 infoBy v l.length (Lib.byteCells l) rfl (H1.out.1.keep (below_alloc _ _)).own ⟨w1.heap.size, 0, none⟩ cc rfl (by simp) HX.out.2.1 (Nat.le_trans HX.out.2.2.1 (Nat.le_trans H1.out.2.size (below_alloc _ _).size)) ?_))
  intro v2 w2 ho hg hat
  have hk1 := H1.out.1.keep (below_alloc w1 (.cells #[.int .u8 cc] 5))
  have g34 : w2.cell? ⟨b, 1, none⟩ = some v := (hk1.row.same (hg.block b hk1.row.lt (fun e => hk1.ne e.symm))).cell 1
  have f34 := (hk1.row.same (hg.block b hk1.row.lt (fun e => hk1.ne e.symm))).fz 1
  obtain ⟨A, n', cap, rfl⟩ : ∃ A n' cap, v2 = .slice A n' cap := by
    rcases ho.2 with ⟨hv, _⟩ | ⟨k, cap, cur, hv, _⟩
    · exact ⟨_, _, _, hv⟩
    · exact ⟨_, _, _, hv⟩
  have H2 := Lib.hid (And.intro ho (And.intro hg hat))
  have HK := Lib.hid hk1
  clear ho hg hat h34 hk1
  go_wp2
  go_ret
  have r := BdR.wrote (m := [c]) HK.out (by
    rw [List.length_append, show Lib.byteCells (l ++ [c]) = Lib.byteCells l ++ [.int .u8 cc] by rw [← HX.out.2.2.2]; simp [Lib.byteCells]]
    exact H2.out.1) H2.out.2.1 (H2.out.2.2.imp id (fun e => Or.inl (by rw [e]; simp)))
  refine ⟨rfl, .slice A n' cap, r.1, H1.out.2.trans ?_⟩
  have hb := below_alloc w1 (.cells #[.int .u8 cc] 5)
  exact Turn.trans ⟨hb.os, hb.tape, hb.output, hb.size, fun k hk _ _ => hb.block k hk, Or.inl rfl⟩ r.2
/-- A builder in a call's own memory, beside blocks F of the call's own. -/
def Bd (B b : Nat) (l : List UInt8) (F : List Nat) (w : World) : Prop := ∃ q v, BdR B b l q v w ∧ (∀ k, v.ownBlock = some k → k ∉ F) ∧ (∀ k ∈ F, k < w.heap.size ∧ k ≠ b) ∧ B ≤ w.heap.size
/-- Nothing below B turned, nor the blocks F. -/
def KeepF (B : Nat) (F : List Nat) (w w' : World) : Prop := Below B w w' ∧ ∀ k ∈ F, w'.heap[k]? = w.heap[k]?
section
variable {B b : Nat} {l : List UInt8} {F : List Nat} {w w' w'' : World}
theorem KeepF.refl : KeepF B F w w := ⟨Below.refl _ _, fun _ _ => rfl⟩
theorem KeepF.trans (h : KeepF B F w w') (k : KeepF B F w' w'') : KeepF B F w w'' := ⟨⟨k.1.os.trans h.1.os, k.1.tape.trans h.1.tape, k.1.output.trans h.1.output, Nat.le_trans h.1.size k.1.size, fun j hj => (k.1.block j hj).trans (h.1.block j hj)⟩, fun j hj => (k.2 j hj).trans (h.2 j hj)⟩
theorem Bd.turn {m : List UInt8} {q q' : Option Addr} {v v' : Value} (h : BdR B b l q v w) (hv : ∀ k, v.ownBlock = some k → k ∉ F) (hF : ∀ k ∈ F, k < w.heap.size ∧ k ≠ b) (hB : B ≤ w.heap.size) (h' : BdR B b m q' v' w') (ht : Turn b v v' w w') : Bd B b m F w' ∧ KeepF B F w w' := by
  refine ⟨⟨q', v', h', fun k hk hm => ?_, fun k hk => ⟨Nat.lt_of_lt_of_le (hF k hk).1 ht.size, (hF k hk).2⟩, Nat.le_trans hB ht.size⟩, ⟨ht.os, ht.tape, ht.output, ht.size, fun k hk => ?_⟩, fun k hk => ?_⟩
  · rcases ht.at_ with e | ⟨j, e, e2⟩
    · exact hv k (e.symm.trans hk) hm
    · rw [e] at hk
      have := Option.some.inj hk
      have := (hF k hm).1
      omega
  · refine ht.out k (Nat.lt_of_lt_of_le hk hB) (by have := h.le; omega) fun e => ?_
    have := h.low k e.symm
    omega
  · exact ht.out k (hF k hk).1 (hF k hk).2 fun e => hv k e.symm hk
theorem Bd.new (w : World) : Bd w.heap.size w.heap.size [] [] (w.alloc (.cells #[.pointer none, .slice none 0 0] 84)) :=
  ⟨_, _, BdR.new w, (fun k hk => by cases hk), (fun k hk => by cases hk), (below_alloc _ _).size⟩
/-- New blocks beside a builder. -/
theorem Bd.more (h : Bd B b l F w) (hb : Below w.heap.size w w') (G : List Nat) (hG : ∀ k ∈ G, w.heap.size ≤ k ∧ k < w'.heap.size) : Bd B b l (G ++ F) w' := by
  obtain ⟨q, v, h1, h2, h3, h4⟩ := h
  refine ⟨q, v, h1.keep hb, fun k hk hm => ?_, fun k hk => ?_, Nat.le_trans h4 hb.size⟩
  · rcases List.mem_append.1 hm with h5 | h5
    · have := h1.low k hk
      have := hG k h5
      omega
    · exact h2 k hk h5
  · rcases List.mem_append.1 hk with h5 | h5
    · have := hG k h5
      have := h1.row.lt
      omega
    · exact ⟨Nat.lt_of_lt_of_le (h3 k h5).1 hb.size, (h3 k h5).2⟩
theorem Bd.keep (h : Bd B b l F w) (hb : Below w.heap.size w w') : Bd B b l F w' := h.more hb [] (fun _ hk => by cases hk)
theorem Bd.str (h : Bd B b l F w) (s : ByteArray) (hs : l.length + s.size ≤ 1000000000) : Calls Tryz.prog 39 #[.pointer (some ⟨b, 0, none⟩), .string s] w fun e w' => e = .returned (.tuple #[.int .i64 (s.size : Int), .nilIface]) ∧ Bd B b (l ++ bl s) F w' ∧ KeepF B F w w' := by
  obtain ⟨q, v, h1, h2, h3, h4⟩ := h
  refine (h1.str s hs h4).mono ?_
  rintro e w' ⟨rfl, v', h5, h6⟩
  exact ⟨rfl, Bd.turn h1 h2 h3 h4 h5 h6⟩
theorem Bd.byte (h : Bd B b l F w) (c : UInt8) (cc : Int) (hcc : ((c.toNat : Nat) : Int) = cc) (hs : l.length + 1 ≤ 1000000000) : Calls Tryz.prog 42 #[.pointer (some ⟨b, 0, none⟩), .int .u8 cc] w fun e w' => e = .returned .nilIface ∧ Bd B b (l ++ [c]) F w' ∧ KeepF B F w w' := by
  obtain ⟨q, v, h1, h2, h3, h4⟩ := h
  refine (h1.byte c cc hcc hs h4).mono ?_
  rintro e w' ⟨rfl, v', h5, h6⟩
  exact ⟨rfl, Bd.turn h1 h2 h3 h4 h5 h6⟩
theorem Bd.string (h : Bd B b l F w) : Calls Tryz.prog 43 #[.pointer (some ⟨b, 0, none⟩)] w fun e w' => e = .returned (.string ⟨l.toArray⟩) ∧ Below B w w' := by
  obtain ⟨q, v, h1, h2, h3, h4⟩ := h
  exact Tryz.Builder_String_any B b l w h1.at h4
end
end Go.Proofs.YtecalodcbkljoaaGreatDoor
namespace Go.Proofs.YtecalodcbkljoaaGreatDoor
open Go.RowKit
theorem Bd.less {B b : Nat} {l : List UInt8} {F : List Nat} {w : World} (h : Bd B b l F w) : Bd B b l [] w := by
  obtain ⟨q, v, h1, h2, h3, h4⟩ := h
  exact ⟨q, v, h1, fun k _ hm => by simp at hm, fun k hk => by simp at hk, h4⟩
theorem Bd.and {B b : Nat} {l : List UInt8} {F : List Nat} {w _w0 : World} (h : Bd B b l F w) : B ≤ w.heap.size := by
  obtain ⟨q, v, h1, h2, h3, h4⟩ := h
  exact h4
def batS (l : List It) : ByteArray := ⟨(batL l).toArray⟩
/-- What stands in the builder behind t items. -/
def packT (l : List It) (t : Nat) : List UInt8 := firstL l.length ++ (l.take t).flatMap itL
theorem packT_succ (l : List It) (t : Nat) (x : It) (h : t < l.length) (hx : l[t] = x) : packT l (t + 1) = ((packT l t ++ (headL x ++ [10])) ++ bl x.text) ++ [10] := by
  unfold packT
  rw [List.take_succ_eq_append_getElem h, hx, List.flatMap_append]
  simp [itL]
theorem packT_all (l : List It) : packT l l.length ++ endL = batL l := by
  unfold packT batL
  rw [List.take_length, List.append_assoc]
theorem sumN_mono (l : List It) (t : Nat) : sumN (l.take t) ≤ sumN l := by
  have h : sumN l = sumN (l.take t) + sumN (l.drop t) := by
    unfold sumN
    rw [← List.sum_append, ← List.map_append, List.take_append_drop]
  omega
theorem packT_len (l : List It) (t : Nat) : (packT l t).length + 4 ≤ (batL l).length := by
  rw [batL_len]
  unfold packT sizeN
  rw [List.length_append, firstL_len, flat_len]
  have := sumN_mono l t
  omega
set_option maxRecDepth 100000 in
set_option maxHeartbeats 6400000 in
theorem pack_l (A : Option Addr) (c : Nat) (l : List It) (r : Nat × Int) (hr : chkB l = r) (w : World) (hL : Laid w) (hs : Sl w cX A l) (hn : l.length ≤ 1073741824) (hx : ∀ x ∈ l, x.text.size ≤ 1073741824) :
    Calls Tryz.prog 14 #[.slice A l.length c] w fun e w' => e = .returned (.tuple #[.string (if r.2 = 0 then batS l else ⟨#[]⟩), .int .i64 r.2]) ∧ Below w.heap.size w w' := by
  have HC := Lib.hid (check_l A c l r hr w hL hs hn hx)
  have HX := Lib.hid (And.intro hL (And.intro hs hx))
  by_cases h0 : r.2 = 0
  case neg =>
    have h2 : (r.2 != 0) = true := by simpa using h0
    have H0 := Lib.hid h0
    obtain ⟨r1, r2⟩ := r
    clear hL hs hx hr hn h0
    go_enter Tryz.func14, Tryz.ntmps14
    go_wp2_with (go_at_call 38; refine HC.out.mono ?_; rintro e w3 ⟨rfl, hb3⟩; have H3 := Lib.hid hb3; clear hb3)
    go_ret2
    exact ⟨rfl, H3.out⟩
  have hk : l.length ≤ 1000 ∧ sizeN l.length (sumN l) ≤ 4194304 := by
    unfold chkB at hr
    split at hr
    · rw [← hr] at h0; cases h0
    · split at hr
      · rw [← hr] at h0; cases h0
      · split at hr
        · rw [← hr] at h0; cases h0
        · omega
  have hbl : (batL l).length ≤ 4194304 := by rw [batL_len]; exact hk.2
  have HN := Lib.hid (And.intro hk.1 hbl)
  obtain ⟨r1, r2⟩ := r
  obtain rfl : r2 = 0 := h0
  clear hL hs hx hr hn hk hbl
  rw [if_pos rfl]
  go_enter Tryz.func14, Tryz.ntmps14
  go_wp2_with (first
    | (go_at_call 38; refine HC.out.mono ?_; rintro e w3 ⟨rfl, hb3⟩; have HB0 := Lib.hid (Bd.new w3); have H3 := Lib.hid (Below.step hb3 (below_alloc w3 (.cells #[.pointer none, .slice none 0 0] 84))); have H30 := Lib.hid hb3.size; obtain ⟨b, hb⟩ : ∃ b, w3.heap.size = b := ⟨_, rfl⟩; rw [hb] at HB0 H30; obtain ⟨W3, hW3⟩ : ∃ W3, w3.alloc (.cells #[.pointer none, .slice none 0 0] 84) = W3 := ⟨_, rfl⟩; rw [hW3] at HB0 H3; clear hb3)
    | (go_at_call 40; refine (first_l l.length (by have := HN.out.1; omega) _ (HX.out.1.keep H3.out)).mono ?_; rintro e w4 ⟨rfl, hb4⟩; have HB4 := Lib.hid (HB0.out.keep hb4); have H4 := Lib.hid (Below.step H3.out hb4); clear hb4)
    | (go_at_call 39; refine (HB4.out.str (fstS l.length) (by have h1 := packT_len l 0; have h2 := HN.out.2; have h3 : (packT l 0).length = (fstS l.length).size := (by rw [← bl_length]; simp [packT, fstS]); simp only [List.length_nil]; omega)).mono ?_; rintro e w5 ⟨rfl, hb5, hk5⟩; have HB5 := Lib.hid hb5; have H5 := Lib.hid (H4.out.trans (hk5.1.mono H30.out)); clear hb5 hk5))
  have HBS := Lib.hid (show w.heap.size ≤ b by have h1 := H30.out; omega)
  clear hb hW3
  go_loopw [23] (fun i wr => ∃ t : Nat, t ≤ l.length ∧ i = .int .i64 t ∧ Bd b b (packT l t) [] wr ∧ Below w.heap.size w wr) (fun i _ => l.length - (intOf i).toNat)
  case atStart => exact ⟨0, Nat.zero_le _, rfl, by
    have h := HB5.out
    rw [List.nil_append] at h
    simpa [packT, fstS] using h, H5.out⟩
  case round =>
    obtain ⟨t, ht, rfl, hbd, hb⟩ := hrel
    have HBD := Lib.hid hbd
    have HB := Lib.hid hb
    clear hbd hb
    by_cases hlt : t < l.length
    · obtain ⟨ad, rfl, hat⟩ := Sl.at_ cX_length (HX.out.2.1.keep HB.out) hlt
      obtain ⟨x, hxe⟩ : ∃ x, l[t] = x := ⟨_, rfl⟩
      rw [hxe] at hat
      have hok := hat.ok
      have hrd := hat.rd
      rw [cX_length] at hok hrd
      change rdA wr (ad.add (t * 33)) 33 = vX x at hrd
      have hlti : (t : Int) < (l.length : Int) := by omega
      have hT : (t : Int) < 1000 := by have := HN.out.1; omega
      have HM := Lib.hid (show x.text.size ≤ 1073741824 from HX.out.2.2 x (by rw [← hxe]; exact List.getElem_mem _))
      have HXE := Lib.hid (packT_succ l t x hlt hxe)
      obtain ⟨g, hg⟩ : ∃ g, wr.heap.size = g := ⟨_, rfl⟩
      obtain ⟨W6, hW6⟩ : ∃ W6, wr.alloc (.cells (aX x) 64) = W6 := ⟨_, rfl⟩
      have H6 := Lib.hid (show Below w.heap.size w W6 ∧ Row W6 g (cX x) 64 ∧ Bd b b (packT l t) [g] W6 from by
        subst hW6 hg
        exact ⟨Below.step HB.out (below_alloc _ _), Row.new wr (cX x) _, HBD.out.more (below_alloc _ _) [wr.heap.size] (by simp)⟩)
      obtain ⟨⟨x1, x2, -⟩, -, -⟩ := rowX H6.out.2.1
      have HPL := Lib.hid (show (packT l t).length + (linS x).size + x.text.size + 1 ≤ 1000000000 from by
        have h1 := packT_len l (t + 1)
        have h2 := HN.out.2
        rw [packT_succ l t x hlt hxe] at h1
        have h3 : (linS x).size = (headL x ++ [10]).length := by rw [← bl_length]; rfl
        simp only [List.length_append, List.length_cons, List.length_nil, bl_length] at h1 h3
        omega)
      clear hat hxe
      go_wp2_with (first
        | (go_at_call 41; refine (line_i x _ (HX.out.1.keep H6.out.1) HM.out).mono ?_; rintro e w7 ⟨rfl, hb7⟩; have H7 := Lib.hid (show Below w.heap.size w w7 ∧ Row w7 g (cX x) 64 ∧ Bd b b (packT l t) [g] w7 from ⟨Below.step H6.out.1 hb7, H6.out.2.1.keep hb7, H6.out.2.2.keep hb7⟩); have T7 : True := trivial; clear hb7 x1 x2 hok hrd)
        | (have hh := T7; clear hh T7; go_at_call 39; refine (H7.out.2.2.str (linS x) (by have := HPL.out; omega)).mono ?_; rintro e w8 ⟨rfl, hb8, hk8⟩; have H8 := Lib.hid (show Below w.heap.size w w8 ∧ Row w8 g (cX x) 64 ∧ Bd b b (packT l t ++ bl (linS x)) [g] w8 from ⟨H7.out.1.trans (hk8.1.mono HBS.out), H7.out.2.1.same (hk8.2 g (by simp)), hb8⟩); obtain ⟨-, -, x3⟩ := rowX H8.out.2.1; have T8 : True := trivial; clear hb8 hk8)
        | (have hh := T8; clear hh T8; go_at_call 39; refine (H8.out.2.2.str x.text (by have := HPL.out; rw [List.length_append, bl_length]; omega)).mono ?_; rintro e w9 ⟨rfl, hb9, hk9⟩; have H9 := Lib.hid (show Below w.heap.size w w9 ∧ Bd b b (packT l t ++ bl (linS x) ++ bl x.text) [g] w9 from ⟨H8.out.1.trans (hk9.1.mono HBS.out), hb9⟩); clear hb9 hk9 x3)
        | (go_at_call 42; refine (H9.out.2.byte 10 10 rfl (by have := HPL.out; rw [List.length_append, List.length_append, bl_length, bl_length]; omega)).mono ?_; rintro e w10 ⟨rfl, hb10, hk10⟩; have H10 := Lib.hid (show Bd b b (packT l (t + 1)) [] w10 ∧ Below w.heap.size w w10 from ⟨by rw [HXE.out]; exact hb10.less, H9.out.1.trans (hk10.1.mono HBS.out)⟩); clear hb10 hk10))
      go_roundw
      case rel => exact ⟨t + 1, hlt, by go_num, H10.out.1, H10.out.2⟩
      case measure => simp [intOf]; omega
    · obtain rfl : t = l.length := by omega
      clear hlt ht
      go_wp2_with (first
        | (go_at_call 39; refine (HBD.out.str ⟨#[101, 110, 100, 10]⟩ (by have h1 := packT_len l l.length; have h2 := HN.out.2; show (packT l l.length).length + 4 ≤ 1000000000; omega)).mono ?_; rintro e w8 ⟨rfl, hb8, hk8⟩; have H8 := Lib.hid (show Below w.heap.size w w8 ∧ Bd b b (batL l) [] w8 from ⟨HB.out.trans (hk8.1.mono HBS.out), by rw [← packT_all]; exact hb8⟩); clear hb8 hk8)
        | (go_at_call 43; refine H8.out.2.string.mono ?_; rintro e w9 ⟨rfl, hb9⟩; have H9 := Lib.hid (H8.out.1.trans (hb9.mono HBS.out)); clear hb9))
      go_ret2
      exact ⟨rfl, H9.out⟩
end Go.Proofs.YtecalodcbkljoaaGreatDoor
