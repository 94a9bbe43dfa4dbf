/- do: what is plain: structs compared, what Say says is valid, the operations as functions of a state. -/
import Derived.Test.YtlelecnafdddhaaDoorInvR
import Derived.Test.YtlelecnafdddhaaDoorAnyG
import Derived.Laws.StructEq
import Derived.Test.YtlelecnafdddhaaDoorOut
namespace Go.Proofs.YtlelecnafdddhaaDoor
section
open Go.RowKit
deriving instance DecidableEq for Rc
section
variable {P : Program} (w : World)
theorem part_c (t : TypeId) (cs : Array Value) (i : Nat) (v : Value) (d : TypeDesc) (hu : P.underlying t = some d) (hd : (match d with | .struct _ | .array _ _ => false | _ => true) = true) (hv : cs[i]? = some v) : (part t cs i).run P w = .ok v w := by
  cases d <;> first | (simp [part, isAgg, run_underlying hu, hv]; done) | cases hd
theorem part_a (t e : TypeId) (cs : Array Value) (i n : Nat) (hu : P.underlying t = some (.array n e)) (hs : (P.info? t).map (·.size) = some n) : (part t cs i).run P w = .ok (.agg (cs.extract i (i + n))) w := by
  cases hq : P.info? t with
  | none => rw [hq] at hs; cases hs
  | some x =>
    rw [hq] at hs
    have hx : x.size = n := by simpa using hs
    simp [part, isAgg, run_underlying hu, sizeOf, typeInfo, run_program, hq, hx]
theorem eqF_nil (d : Nat) (xs ys : Array Value) : (Op.eqFields d xs ys []).run P w = .ok true w := by simp [Op.eqFields]
theorem eqF_cons {d : Nat} {xs ys : Array Value} {f : Field} {fs : List Field} {a b : Value} {r q : Bool} (hn : f.name ≠ "_") (h1 : (part f.type xs f.offset).run P w = .ok a w) (h2 : (part f.type ys f.offset).run P w = .ok b w) (h3 : (Op.equalIn d f.type a b).run P w = .ok r w)
    (h4 : (Op.eqFields d xs ys fs).run P w = .ok q w) : (Op.eqFields d xs ys (f :: fs)).run P w = .ok (r && q) w := by
  cases r <;> simp [Op.eqFields, hn, h1, h2, h3, h4]
end
section
variable (w : World)
theorem eqid22 (d : Nat) (a b : Id) : (Op.equalIn (d + 2) 22 (vI a) (vI b)).run Tryd.prog w = .ok (decide (a = b)) w := by
  obtain ⟨i, h1, h2⟩ := info5
  unfold vI cI
  rw [run_equalIn_bytes w d 32 22 5 i a.1 b.1 Tryd.underlying22 Tryd.underlying5 h1 h2 a.2 b.2]
  simp [Subtype.ext_iff]
theorem size22' : (Tryd.prog.info? 22).map (·.size) = some 32 := by kernel_rfl
theorem list_ext (l : List Value) (i n : Nat) (r : List Value) (h : (l.drop i).take n = r) : l.toArray.extract i (i + n) = r.toArray := by
  rw [← h]
  apply Array.ext'
  simp [List.take_drop]
theorem idpart (l : List Value) (i : Nat) (x : Id) (h : (l.drop i).take 32 = cI x) : (part 22 l.toArray i).run Tryd.prog w = .ok (vI x) w := by
  rw [part_a w 22 5 _ i 32 Tryd.underlying22 size22', list_ext l i 32 _ h]
  rfl
theorem qO_id (x : Out) : ((cO x).drop 0).take 32 = cI x.1 := by
  unfold cO
  rw [List.drop_zero, List.take_append_of_le_length (by rw [cI_length]; exact Nat.le_refl _), List.take_of_length_le (by rw [cI_length]; exact Nat.le_refl _)]
theorem qO_hi (x : Out) (k : Nat) : (cO x).toArray[32 + k]? = [Value.int .i64 x.2.1, Value.int .i64 x.2.2][k]? := by
  unfold cO
  rw [List.getElem?_toArray, List.getElem?_append_right (by rw [cI_length]; omega), cI_length, show 32 + k - 32 = k by omega]
theorem qA_hi (x : Art) : (cA x).toArray[32]? = some (.string x.2) := by
  unfold cA
  rw [List.getElem?_toArray, List.getElem?_append_right (by rw [cI_length]; omega), cI_length]
  rfl
theorem beqL (a b : ByteArray) : (a.toList == b.toList) = decide (a = b) := by
  by_cases h : a = b
  · subst h; simp
  · have h2 : ¬ a.toList = b.toList := fun e => h (by
      rw [ByteArray.toList_eq, ByteArray.toList_eq] at e
      exact ByteArray.ext (Array.ext' e))
    simp [h, h2]

theorem eqs55 (a b : Rc) : (Op.eqFields 9999 (cK a).toArray (cK b).toArray (Tryd.prog.fieldsOf 55).toList).run Tryd.prog w = .ok (decide (a = b)) w := by
  simp only [Program.fieldsOf, Tryd.underlying55]
  refine Eq.trans (eqF_cons w (by decide) (part_c w 3 _ 0 _ _ Tryd.underlying3 rfl (rfl)) (part_c w 3 _ 0 _ _ Tryd.underlying3 rfl (rfl)) (run_equalIn_int w 9998 3 .i64 .i64 _ _ Tryd.underlying3) (eqF_cons w (by decide) (part_c w 3 _ 1 _ _ Tryd.underlying3 rfl (rfl)) (part_c w 3 _ 1 _ _ Tryd.underlying3 rfl (rfl)) (run_equalIn_int w 9998 3 .i64 .i64 _ _ Tryd.underlying3) (eqF_cons w (by decide) (part_c w 3 _ 2 _ _ Tryd.underlying3 rfl (rfl)) (part_c w 3 _ 2 _ _ Tryd.underlying3 rfl (rfl)) (run_equalIn_int w 9998 3 .i64 .i64 _ _ Tryd.underlying3) (eqF_cons w (by decide) (part_c w 3 _ 3 _ _ Tryd.underlying3 rfl (rfl)) (part_c w 3 _ 3 _ _ Tryd.underlying3 rfl (rfl)) (run_equalIn_int w 9998 3 .i64 .i64 _ _ Tryd.underlying3) (eqF_cons w (by decide) (idpart w _ 4 a.id (cK_id a)) (idpart w _ 4 b.id (cK_id b)) (eqid22 w 9997 _ _) (eqF_cons w (by decide) (part_c w 9 _ 36 _ _ Tryd.underlying9 rfl ((List.getElem?_toArray ..).trans (cK_hi a 0))) (part_c w 9 _ 36 _ _ Tryd.underlying9 rfl ((List.getElem?_toArray ..).trans (cK_hi b 0))) (run_equalIn_string w 9998 9 _ _ Tryd.underlying9) (eqF_nil w 9999 _ _))))))) ?_
  congr 1
  rw [Bool.eq_iff_iff]
  simp only [Bool.and_eq_true, beq_iff_eq, decide_eq_true_eq, beqL, and_true]
  cases a; cases b; simp [Rc.mk.injEq]
theorem prel55 : Tryd.prog.underlying 55 = some (.struct (Tryd.prog.fieldsOf 55)) := by rw [Program.fieldsOf, Tryd.underlying55]
theorem held55 : Tryd.prog.stoodInHeld 55 = false := by kernel_rfl
theorem guard55 : Tryd.prog.eqGuardType Tryd.prog.depth 55 = false := by kernel_rfl
@[go_sem] theorem eqGuard55 (op : BinOp) (x y : Operand) (a b : Rc) : (eqGuard op 55 x y (vK a) (vK b)).run Tryd.prog w = .ok () w := run_eqGuard_agg w op 55 x y _ _ guard55
@[go_sem] theorem eql55 (a b : Rc) : (binOp .eql 55 (vK a) (vK b)).run Tryd.prog w = .ok (.bool (decide (a = b))) w := by
  unfold vK
  rw [run_eql_struct, run_equalIn_struct w 9999 55 _ _ prel55 held55, eqs55]
  rfl
theorem eqs103 (a b : Out) : (Op.eqFields 9999 (cO a).toArray (cO b).toArray (Tryd.prog.fieldsOf 103).toList).run Tryd.prog w = .ok (decide (a = b)) w := by
  simp only [Program.fieldsOf, Tryd.underlying103]
  refine Eq.trans (eqF_cons w (by decide) (idpart w _ 0 a.1 (qO_id a)) (idpart w _ 0 b.1 (qO_id b)) (eqid22 w 9997 _ _) (eqF_cons w (by decide) (part_c w 3 _ 32 _ _ Tryd.underlying3 rfl (qO_hi a 0)) (part_c w 3 _ 32 _ _ Tryd.underlying3 rfl (qO_hi b 0)) (run_equalIn_int w 9998 3 .i64 .i64 _ _ Tryd.underlying3) (eqF_cons w (by decide) (part_c w 3 _ 33 _ _ Tryd.underlying3 rfl (qO_hi a 1)) (part_c w 3 _ 33 _ _ Tryd.underlying3 rfl (qO_hi b 1)) (run_equalIn_int w 9998 3 .i64 .i64 _ _ Tryd.underlying3) (eqF_nil w 9999 _ _)))) ?_
  congr 1
  rw [Bool.eq_iff_iff]
  simp only [Bool.and_eq_true, beq_iff_eq, decide_eq_true_eq, and_true]
  obtain ⟨a1, a2, a3⟩ := a; obtain ⟨b1, b2, b3⟩ := b; simp [Prod.mk.injEq]
theorem prel103 : Tryd.prog.underlying 103 = some (.struct (Tryd.prog.fieldsOf 103)) := by rw [Program.fieldsOf, Tryd.underlying103]
theorem held103 : Tryd.prog.stoodInHeld 103 = false := by kernel_rfl
theorem guard103 : Tryd.prog.eqGuardType Tryd.prog.depth 103 = false := by kernel_rfl
@[go_sem] theorem eqGuard103 (op : BinOp) (x y : Operand) (a b : Out) : (eqGuard op 103 x y (vO a) (vO b)).run Tryd.prog w = .ok () w := run_eqGuard_agg w op 103 x y _ _ guard103
@[go_sem] theorem neq103 (a b : Out) : (binOp .neq 103 (vO a) (vO b)).run Tryd.prog w = .ok (.bool (!decide (a = b))) w := by
  unfold vO
  rw [run_neq_struct, run_equalIn_struct w 9999 103 _ _ prel103 held103, eqs103]
  rfl
theorem eqs28 (a b : Art) : (Op.eqFields 9999 (cA a).toArray (cA b).toArray (Tryd.prog.fieldsOf 28).toList).run Tryd.prog w = .ok (decide (a = b)) w := by
  simp only [Program.fieldsOf, Tryd.underlying28]
  refine Eq.trans (eqF_cons w (by decide) (idpart w _ 0 a.1 (cA_id a)) (idpart w _ 0 b.1 (cA_id b)) (eqid22 w 9997 _ _) (eqF_cons w (by decide) (part_c w 9 _ 32 _ _ Tryd.underlying9 rfl (qA_hi a)) (part_c w 9 _ 32 _ _ Tryd.underlying9 rfl (qA_hi b)) (run_equalIn_string w 9998 9 _ _ Tryd.underlying9) (eqF_nil w 9999 _ _))) ?_
  congr 1
  rw [Bool.eq_iff_iff]
  simp only [Bool.and_eq_true, decide_eq_true_eq, beqL, and_true]
  obtain ⟨a1, a2⟩ := a; obtain ⟨b1, b2⟩ := b; simp [Prod.mk.injEq]
theorem prel28 : Tryd.prog.underlying 28 = some (.struct (Tryd.prog.fieldsOf 28)) := by rw [Program.fieldsOf, Tryd.underlying28]
theorem held28 : Tryd.prog.stoodInHeld 28 = false := by kernel_rfl
theorem guard28 : Tryd.prog.eqGuardType Tryd.prog.depth 28 = false := by kernel_rfl
@[go_sem] theorem eqGuard28 (op : BinOp) (x y : Operand) (a b : Art) : (eqGuard op 28 x y (vA a) (vA b)).run Tryd.prog w = .ok () w := run_eqGuard_agg w op 28 x y _ _ guard28
@[go_sem] theorem neq28 (a b : Art) : (binOp .neq 28 (vA a) (vA b)).run Tryd.prog w = .ok (.bool (!decide (a = b))) w := by
  unfold vA
  rw [run_neq_struct, run_equalIn_struct w 9999 28 _ _ prel28 held28, eqs28]
  rfl
end
end
section
open Go.RowKit
theorem crL_extract (t : ByteArray) (a b : Nat) (h : crL t = false) : crL (t.extract a b) = false := by
  refine crL_none _ fun k hk => ?_
  rw [ByteArray.size_extract] at hk
  cases hq : (((t.extract a b)[k]'(by rw [ByteArray.size_extract]; exact hk)).toNat : Int) == 13 with
  | false => rfl
  | true =>
    rw [ByteArray.getElem_extract] at hq
    have := crL_at t (a + k) (by omega) hq
    rw [h] at this
    cases this
theorem chkF_of (c : Cm) (fl most : Int) (h1 : (bits BinOp.andNot .i64 (orL (psC c)) fl != 0) = false) (h2 : (bits BinOp.and .i64 fl 1 != 0) = false) (h3 : c.id ≠ zI) (h4 : ∀ y ∈ rgs c, okR fl y = true) (h5 : (bits BinOp.and .i64 fl 64 == 0) = true ∨ (c.text.toList.isEmpty = false ∧ (c.text.size : Int) ≤ most ∧ crL c.text = false)) : chkF c fl most = 0 := by
  unfold chkF
  rw [if_neg (by rw [h1]; decide), if_neg (by rw [h2]; decide), if_neg (by simp [h3]), if_neg (by rw [Bool.not_eq_false, List.all_eq_true]; exact h4)]
  rcases h5 with h5 | ⟨h5, h6, h7⟩
  · rw [if_pos h5]
  · cases hq : (bits BinOp.and .i64 fl 64 == 0) with
    | true => rfl
    | false => rw [if_neg (by decide), if_neg (by rw [h5]; decide), if_neg (by omega), if_neg (by rw [h7]; decide)]
theorem chk_offer (a : Art) (h : okArt a) : chk (offerC a) = 0 := by
  have hs : 0 < a.2.size := by
    rcases Nat.eq_zero_or_pos a.2.size with e | e
    · have h2 := h.2.1
      have e2 : a.2.toList = [] := by rw [ByteArray.toList_eq, ← List.length_eq_zero_iff]; exact e
      rw [e2] at h2
      cases h2
    · exact e
  have hb := h.2.2.1
  unfold chk
  rw [if_neg (by show ¬ ((2 : Int) < 1 ∨ (11 : Int) < 2); omega)]
  show chkF (offerC a) 6 0 = 0
  have e : psC (offerC a) = psL false true ((a.2.size : Int) != 0) false false false false := by
    unfold psC offerC
    simp [decide_eq_false h.1, ByteArray.toList_eq]
  refine chkF_of _ _ _ (by rw [e]; cases ((a.2.size : Int) != 0) <;> decide +kernel) (by decide +kernel) h.1 (fun y hy => ?_) (Or.inl (by decide +kernel))
  unfold rgs at hy
  simp only [List.mem_cons, List.not_mem_nil, or_false] at hy
  rcases hy with rfl | rfl | rfl | rfl
  · unfold okR
    have q1 : (1 : Int) ≤ (a.2.size : Int) := by omega
    have q2 : (a.2.size : Int) ≤ 65536 := by omega
    simp [offerC, q1, q2]
  · unfold okR; rw [show (bits BinOp.and .i64 6 8 == 0) = true by decide +kernel]; rfl
  · unfold okR; rw [show (bits BinOp.and .i64 6 16 == 0) = true by decide +kernel]; rfl
  · unfold okR; rw [show (bits BinOp.and .i64 6 32 == 0) = true by decide +kernel]; rfl
theorem chk_done (x : Id) (h : x ≠ zI) : chk (doneC x) = 0 := by
  unfold chk
  rw [if_neg (by show ¬ ((8 : Int) < 1 ∨ (11 : Int) < 8); omega)]
  show chkF (doneC x) 2 0 = 0
  have e : psC (doneC x) = psL false true false false false false false := by
    unfold psC doneC
    simp [decide_eq_false h, ByteArray.toList_eq]
  refine chkF_of _ _ _ (by rw [e]; decide +kernel) (by decide +kernel) h (fun y hy => ?_) (Or.inl (by decide +kernel))
  unfold rgs at hy
  simp only [List.mem_cons, List.not_mem_nil, or_false] at hy
  rcases hy with rfl | rfl | rfl | rfl
  · unfold okR; rw [show (bits BinOp.and .i64 2 4 == 0) = true by decide +kernel]; rfl
  · unfold okR; rw [show (bits BinOp.and .i64 2 8 == 0) = true by decide +kernel]; rfl
  · unfold okR; rw [show (bits BinOp.and .i64 2 16 == 0) = true by decide +kernel]; rfl
  · unfold okR; rw [show (bits BinOp.and .i64 2 32 == 0) = true by decide +kernel]; rfl
theorem chk_data (x : Id) (t : ByteArray) (fr nx : Int) (h : x ≠ zI) (h0 : 0 ≤ fr) (h1 : fr < nx) (h2 : nx ≤ (t.size : Int)) (h3 : nx - fr ≤ 4096) (h4 : t.size ≤ 65536) (h5 : crL t = false) : chk (dataC x t fr nx) = 0 := by
  have hs : (t.extract fr.toNat nx.toNat).size = nx.toNat - fr.toNat := by rw [ByteArray.size_extract]; omega
  have he : (t.extract fr.toNat nx.toNat).toList.isEmpty = false := by
    cases hq : (t.extract fr.toNat nx.toNat).toList.isEmpty with
    | false => rfl
    | true =>
      have e2 := List.isEmpty_iff.1 hq
      rw [ByteArray.toList_eq, ← List.length_eq_zero_iff] at e2
      have e3 : (t.extract fr.toNat nx.toNat).size = 0 := e2
      omega
  unfold chk
  rw [if_neg (by show ¬ ((7 : Int) < 1 ∨ (11 : Int) < 7); omega)]
  show chkF (dataC x t fr nx) 74 4096 = 0
  have e : psC (dataC x t fr nx) = psL false true false (fr != 0) false false true := by
    unfold psC dataC
    dsimp only
    rw [he]
    simp [decide_eq_false h, ByteArray.toList_eq]
  refine chkF_of _ _ _ (by rw [e]; cases (fr != 0) <;> decide +kernel) (by decide +kernel) h (fun y hy => ?_) (Or.inr ⟨he, by show ((t.extract fr.toNat nx.toNat).size : Int) ≤ 4096; omega, crL_extract t _ _ h5⟩)
  unfold rgs at hy
  simp only [List.mem_cons, List.not_mem_nil, or_false] at hy
  rcases hy with rfl | rfl | rfl | rfl
  · unfold okR; rw [show (bits BinOp.and .i64 74 4 == 0) = true by decide +kernel]; rfl
  · unfold okR
    have q2 : fr ≤ 65536 := by omega
    simp [dataC, h0, q2]
  · unfold okR; rw [show (bits BinOp.and .i64 74 16 == 0) = true by decide +kernel]; rfl
  · unfold okR; rw [show (bits BinOp.and .i64 74 32 == 0) = true by decide +kernel]; rfl
/-- What Say says is a valid command without a name and a count. -/
theorem chk_say {ch : Int} {s : St} (g : Good ch s) (h : (sayS ch s).2.2 = true) : chk (sayS ch s).2.1 = 0 := by
  unfold sayS at h ⊢
  by_cases h0 : s.state = 0
  · rw [if_pos h0] at h ⊢
    cases hw : s.wait with
    | nil => rw [hw] at h; cases h
    | cons a r => exact chk_offer a (g.wait a (by rw [hw]; exact List.mem_cons_self))
  · rw [if_neg h0] at h ⊢
    by_cases h2 : s.state = 2
    · rw [if_pos h2] at h ⊢
      have hc := g.cur h0
      obtain ⟨a, ha, ha0, ha1⟩ := g.mid h2
      have hsent : sentS s = a := by unfold sentS; rw [ha]; rfl
      rw [hsent] at h ⊢
      by_cases hd : a = (s.cur.2.size : Int)
      · rw [if_pos hd]; exact chk_done _ hc.1
      · rw [if_neg hd]
        have := g.c1
        have := g.c2
        exact chk_data _ _ _ _ hc.1 ha0 (by omega) (by omega) (by omega) hc.2.2.1 hc.2.2.2
    · rw [if_neg h2] at h; cases h
theorem say_names (ch : Int) (s : St) : (sayS ch s).2.1.name = ⟨#[]⟩ ∧ (sayS ch s).2.1.count = 0 := by
  unfold sayS
  repeat' split
  all_goals exact ⟨rfl, rfl⟩
end
section
open Go.RowKit
theorem outAt {w : World} {A : Option Addr} {xs : List Out} (h : Sl w cO A xs) {k : Nat} (hk : k < xs.length) : ∃ ad, A = some ad ∧ (okA w (ad.add (k * 34)) 32 = true ∧ rdA w (ad.add (k * 34)) 32 = vI xs[k].1) ∧ w.cell? (ad.add (k * 34 + 32)) = some (.int .i64 xs[k].2.1) ∧ w.cell? (ad.add (k * 34 + 33)) = some (.int .i64 xs[k].2.2) ∧ (okA w (ad.add (k * 34)) 34 = true ∧ rdA w (ad.add (k * 34)) 34 = vO xs[k]) := by
  obtain ⟨ad, rfl, hat⟩ := Sl.at_ cO_length h hk
  generalize xs[k] = x at hat ⊢
  have h1 := hat.ok
  have h2 := hat.rd
  rw [cO_length] at h1 h2
  have hc : ∀ j, w.cell? (ad.add (k * 34 + (32 + j))) = [Value.int .i64 x.2.1, Value.int .i64 x.2.2][j]? ∨ 2 ≤ j := fun j => by
    rcases Nat.lt_or_ge j 2 with hj | hj
    · left
      have hx := qO_hi x j
      rw [List.getElem?_toArray] at hx
      have hs : ∃ u, [Value.int .i64 x.2.1, Value.int .i64 x.2.2][j]? = some u := ⟨_, List.getElem?_eq_getElem (by simpa using hj)⟩
      obtain ⟨u, hu⟩ := hs
      rw [hu] at hx ⊢
      have := hat.2 (32 + j) u hx
      rwa [Addr.add_add] at this
    · exact Or.inr hj
  have hid : At w (ad.add (k * 34)) (cI x.1) := ⟨hat.1, fun j u hj => hat.2 j u (by unfold cO; rw [List.getElem?_append_left (by rw [cI_length]; have := (List.getElem?_eq_some_iff.1 hj).1; rw [cI_length] at this; exact this)]; exact hj)⟩
  have h3 := hid.ok
  have h4 := hid.rd
  rw [cI_length] at h3 h4
  refine ⟨ad, rfl, ⟨h3, h4⟩, ?_, ?_, h1, h2⟩
  · rcases hc 0 with h | h
    · exact h
    · omega
  · rcases hc 1 with h | h
    · exact h
    · omega
end
section
open Go.RowKit
instance : Inhabited Rop := ⟨⟨0, zA, zK⟩⟩
def opS (ch : Int) (s : St) (x : Rop) : St :=
  if x.kind.toNat % 5 = 0 then (addS s x.a.1 (cutS x.a.2)).1
  else if x.kind.toNat % 5 = 1 then (sayS ch s).1
  else if x.kind.toNat % 5 = 2 then (hearS s (toS x.c)).1
  else if x.kind.toNat % 5 = 3 then dropS s else { s with outs := [] }
theorem Good.op {ch : Int} {s : St} (g : Good ch s) (x : Rop) : Good ch (opS ch s x) := by
  unfold opS
  split
  · exact g.add _ _
  · split
    · exact g.say
    · split
      · exact g.hear _
      · split
        · exact g.drop
        · exact ⟨g.c1, g.c2, g.st, g.low, g.idle, g.mid, g.last, g.cur, g.wait, g.len, g.len2⟩
theorem opS_outs (ch : Int) (s : St) (x : Rop) : (opS ch s x).outs.length ≤ s.outs.length + 1 := by
  unfold opS
  split
  · rw [addS_outs]; omega
  · split
    · rw [sayS_outs]; omega
    · split
      · exact hearS_outs _ _
      · split
        · rw [dropS_outs]; omega
        · simp
theorem kind_tmod (c : UInt8) (k : Nat) (h : c.toNat % 5 = k) : (c.toNat : Int).tmod 5 = (k : Int) := by
  rw [Int.tmod_eq_emod_of_nonneg (by omega)]
  omega
theorem opAt {w : World} {A : Option Addr} {xs : List Rop} (h : Sl w cQ A xs) {k : Nat} (hk : k < xs.length) : ∃ ad, A = some ad ∧ okA w (ad.add (k * 71)) 71 = true ∧ rdA w (ad.add (k * 71)) 71 = vQ xs[k] ∧ w.cell? (ad.add (k * 71)) = some (.int .u8 (xs[k].kind.toNat : Int)) := by
  obtain ⟨ad, rfl, hat⟩ := Sl.at_ cQ_length h hk
  have h1 := hat.ok
  have h2 := hat.rd
  rw [cQ_length] at h1 h2
  have h3 := hat.2 0 _ (show (cQ xs[k])[0]? = some (.int .u8 (xs[k].kind.toNat : Int)) from rfl)
  rw [Addr.add_zero'] at h3
  exact ⟨ad, rfl, h1, h2, h3⟩
end
end Go.Proofs.YtlelecnafdddhaaDoor
