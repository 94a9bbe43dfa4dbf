/- Commands, outcomes and articles of the reference compared. -/
import Derived.Test.YtlelecnafdddhaaDoorInvR
import Derived.Test.YtlelecnafdddhaaDoorAnyG
import Derived.Laws.StructEq
namespace Go.Proofs.YtlelecnafdddhaaDoor
open Go.RowKit
deriving instance DecidableEq for Rc
section
variable {P : Program} (w : World)
theorem part_c (t : TypeId) (cs : Array Value) (i : Nat) (v : Value) (d : TypeDesc) (hu : P.underlying t = some d) (hd : (match d with | .struct _ | .array _ _ => false | _ => true) = true) (hv : cs[i]? = some v) : (part t cs i).run P w = .ok v w := by
  cases d <;> first | (simp [part, isAgg, run_underlying hu, hv]; done) | cases hd
theorem part_a (t e : TypeId) (cs : Array Value) (i n : Nat) (hu : P.underlying t = some (.array n e)) (hs : (P.info? t).map (·.size) = some n) : (part t cs i).run P w = .ok (.agg (cs.extract i (i + n))) w := by
  cases hq : P.info? t with
  | none => rw [hq] at hs; cases hs
  | some x =>
    rw [hq] at hs
    have hx : x.size = n := by simpa using hs
    simp [part, isAgg, run_underlying hu, sizeOf, typeInfo, run_program, hq, hx]
theorem eqF_nil (d : Nat) (xs ys : Array Value) : (Op.eqFields d xs ys []).run P w = .ok true w := by simp [Op.eqFields]
theorem eqF_cons {d : Nat} {xs ys : Array Value} {f : Field} {fs : List Field} {a b : Value} {r q : Bool} (hn : f.name ≠ "_") (h1 : (part f.type xs f.offset).run P w = .ok a w) (h2 : (part f.type ys f.offset).run P w = .ok b w) (h3 : (Op.equalIn d f.type a b).run P w = .ok r w)
    (h4 : (Op.eqFields d xs ys fs).run P w = .ok q w) : (Op.eqFields d xs ys (f :: fs)).run P w = .ok (r && q) w := by
  cases r <;> simp [Op.eqFields, hn, h1, h2, h3, h4]
end
section
variable (w : World)
theorem eqid22 (d : Nat) (a b : Id) : (Op.equalIn (d + 2) 22 (vI a) (vI b)).run Tryd.prog w = .ok (decide (a = b)) w := by
  obtain ⟨i, h1, h2⟩ := info5
  unfold vI cI
  rw [run_equalIn_bytes w d 32 22 5 i a.1 b.1 Tryd.underlying22 Tryd.underlying5 h1 h2 a.2 b.2]
  simp [Subtype.ext_iff]
theorem size22' : (Tryd.prog.info? 22).map (·.size) = some 32 := by kernel_rfl
theorem list_ext (l : List Value) (i n : Nat) (r : List Value) (h : (l.drop i).take n = r) : l.toArray.extract i (i + n) = r.toArray := by
  rw [← h]
  apply Array.ext'
  simp [List.take_drop]
theorem idpart (l : List Value) (i : Nat) (x : Id) (h : (l.drop i).take 32 = cI x) : (part 22 l.toArray i).run Tryd.prog w = .ok (vI x) w := by
  rw [part_a w 22 5 _ i 32 Tryd.underlying22 size22', list_ext l i 32 _ h]
  rfl
theorem qO_id (x : Out) : ((cO x).drop 0).take 32 = cI x.1 := by
  unfold cO
  rw [List.drop_zero, List.take_append_of_le_length (by rw [cI_length]; exact Nat.le_refl _), List.take_of_length_le (by rw [cI_length]; exact Nat.le_refl _)]
theorem qO_hi (x : Out) (k : Nat) : (cO x).toArray[32 + k]? = [Value.int .i64 x.2.1, Value.int .i64 x.2.2][k]? := by
  unfold cO
  rw [List.getElem?_toArray, List.getElem?_append_right (by rw [cI_length]; omega), cI_length, show 32 + k - 32 = k by omega]
theorem qA_hi (x : Art) : (cA x).toArray[32]? = some (.string x.2) := by
  unfold cA
  rw [List.getElem?_toArray, List.getElem?_append_right (by rw [cI_length]; omega), cI_length]
  rfl
theorem beqL (a b : ByteArray) : (a.toList == b.toList) = decide (a = b) := by
  by_cases h : a = b
  · subst h; simp
  · have h2 : ¬ a.toList = b.toList := fun e => h (by
      rw [ByteArray.toList_eq, ByteArray.toList_eq] at e
      exact ByteArray.ext (Array.ext' e))
    simp [h, h2]

theorem eqs55 (a b : Rc) : (Op.eqFields 9999 (cK a).toArray (cK b).toArray (Tryd.prog.fieldsOf 55).toList).run Tryd.prog w = .ok (decide (a = b)) w := by
  simp only [Program.fieldsOf, Tryd.underlying55]
  refine Eq.trans (eqF_cons w (by decide) (part_c w 3 _ 0 _ _ Tryd.underlying3 rfl (rfl)) (part_c w 3 _ 0 _ _ Tryd.underlying3 rfl (rfl)) (run_equalIn_int w 9998 3 .i64 .i64 _ _ Tryd.underlying3) (eqF_cons w (by decide) (part_c w 3 _ 1 _ _ Tryd.underlying3 rfl (rfl)) (part_c w 3 _ 1 _ _ Tryd.underlying3 rfl (rfl)) (run_equalIn_int w 9998 3 .i64 .i64 _ _ Tryd.underlying3) (eqF_cons w (by decide) (part_c w 3 _ 2 _ _ Tryd.underlying3 rfl (rfl)) (part_c w 3 _ 2 _ _ Tryd.underlying3 rfl (rfl)) (run_equalIn_int w 9998 3 .i64 .i64 _ _ Tryd.underlying3) (eqF_cons w (by decide) (part_c w 3 _ 3 _ _ Tryd.underlying3 rfl (rfl)) (part_c w 3 _ 3 _ _ Tryd.underlying3 rfl (rfl)) (run_equalIn_int w 9998 3 .i64 .i64 _ _ Tryd.underlying3) (eqF_cons w (by decide) (idpart w _ 4 a.id (cK_id a)) (idpart w _ 4 b.id (cK_id b)) (eqid22 w 9997 _ _) (eqF_cons w (by decide) (part_c w 9 _ 36 _ _ Tryd.underlying9 rfl ((List.getElem?_toArray ..).trans (cK_hi a 0))) (part_c w 9 _ 36 _ _ Tryd.underlying9 rfl ((List.getElem?_toArray ..).trans (cK_hi b 0))) (run_equalIn_string w 9998 9 _ _ Tryd.underlying9) (eqF_nil w 9999 _ _))))))) ?_
  congr 1
  rw [Bool.eq_iff_iff]
  simp only [Bool.and_eq_true, beq_iff_eq, decide_eq_true_eq, beqL, and_true]
  cases a; cases b; simp [Rc.mk.injEq]
theorem prel55 : Tryd.prog.underlying 55 = some (.struct (Tryd.prog.fieldsOf 55)) := by rw [Program.fieldsOf, Tryd.underlying55]
theorem held55 : Tryd.prog.stoodInHeld 55 = false := by kernel_rfl
theorem guard55 : Tryd.prog.eqGuardType Tryd.prog.depth 55 = false := by kernel_rfl
@[go_sem] theorem eqGuard55 (op : BinOp) (x y : Operand) (a b : Rc) : (eqGuard op 55 x y (vK a) (vK b)).run Tryd.prog w = .ok () w := run_eqGuard_agg w op 55 x y _ _ guard55
@[go_sem] theorem eql55 (a b : Rc) : (binOp .eql 55 (vK a) (vK b)).run Tryd.prog w = .ok (.bool (decide (a = b))) w := by
  unfold vK
  rw [run_eql_struct, run_equalIn_struct w 9999 55 _ _ prel55 held55, eqs55]
  rfl
theorem eqs103 (a b : Out) : (Op.eqFields 9999 (cO a).toArray (cO b).toArray (Tryd.prog.fieldsOf 103).toList).run Tryd.prog w = .ok (decide (a = b)) w := by
  simp only [Program.fieldsOf, Tryd.underlying103]
  refine Eq.trans (eqF_cons w (by decide) (idpart w _ 0 a.1 (qO_id a)) (idpart w _ 0 b.1 (qO_id b)) (eqid22 w 9997 _ _) (eqF_cons w (by decide) (part_c w 3 _ 32 _ _ Tryd.underlying3 rfl (qO_hi a 0)) (part_c w 3 _ 32 _ _ Tryd.underlying3 rfl (qO_hi b 0)) (run_equalIn_int w 9998 3 .i64 .i64 _ _ Tryd.underlying3) (eqF_cons w (by decide) (part_c w 3 _ 33 _ _ Tryd.underlying3 rfl (qO_hi a 1)) (part_c w 3 _ 33 _ _ Tryd.underlying3 rfl (qO_hi b 1)) (run_equalIn_int w 9998 3 .i64 .i64 _ _ Tryd.underlying3) (eqF_nil w 9999 _ _)))) ?_
  congr 1
  rw [Bool.eq_iff_iff]
  simp only [Bool.and_eq_true, beq_iff_eq, decide_eq_true_eq, and_true]
  obtain ⟨a1, a2, a3⟩ := a; obtain ⟨b1, b2, b3⟩ := b; simp [Prod.mk.injEq]
theorem prel103 : Tryd.prog.underlying 103 = some (.struct (Tryd.prog.fieldsOf 103)) := by rw [Program.fieldsOf, Tryd.underlying103]
theorem held103 : Tryd.prog.stoodInHeld 103 = false := by kernel_rfl
theorem guard103 : Tryd.prog.eqGuardType Tryd.prog.depth 103 = false := by kernel_rfl
@[go_sem] theorem eqGuard103 (op : BinOp) (x y : Operand) (a b : Out) : (eqGuard op 103 x y (vO a) (vO b)).run Tryd.prog w = .ok () w := run_eqGuard_agg w op 103 x y _ _ guard103
@[go_sem] theorem neq103 (a b : Out) : (binOp .neq 103 (vO a) (vO b)).run Tryd.prog w = .ok (.bool (!decide (a = b))) w := by
  unfold vO
  rw [run_neq_struct, run_equalIn_struct w 9999 103 _ _ prel103 held103, eqs103]
  rfl
theorem eqs28 (a b : Art) : (Op.eqFields 9999 (cA a).toArray (cA b).toArray (Tryd.prog.fieldsOf 28).toList).run Tryd.prog w = .ok (decide (a = b)) w := by
  simp only [Program.fieldsOf, Tryd.underlying28]
  refine Eq.trans (eqF_cons w (by decide) (idpart w _ 0 a.1 (cA_id a)) (idpart w _ 0 b.1 (cA_id b)) (eqid22 w 9997 _ _) (eqF_cons w (by decide) (part_c w 9 _ 32 _ _ Tryd.underlying9 rfl (qA_hi a)) (part_c w 9 _ 32 _ _ Tryd.underlying9 rfl (qA_hi b)) (run_equalIn_string w 9998 9 _ _ Tryd.underlying9) (eqF_nil w 9999 _ _))) ?_
  congr 1
  rw [Bool.eq_iff_iff]
  simp only [Bool.and_eq_true, decide_eq_true_eq, beqL, and_true]
  obtain ⟨a1, a2⟩ := a; obtain ⟨b1, b2⟩ := b; simp [Prod.mk.injEq]
theorem prel28 : Tryd.prog.underlying 28 = some (.struct (Tryd.prog.fieldsOf 28)) := by rw [Program.fieldsOf, Tryd.underlying28]
theorem held28 : Tryd.prog.stoodInHeld 28 = false := by kernel_rfl
theorem guard28 : Tryd.prog.eqGuardType Tryd.prog.depth 28 = false := by kernel_rfl
@[go_sem] theorem eqGuard28 (op : BinOp) (x y : Operand) (a b : Art) : (eqGuard op 28 x y (vA a) (vA b)).run Tryd.prog w = .ok () w := run_eqGuard_agg w op 28 x y _ _ guard28
@[go_sem] theorem neq28 (a b : Art) : (binOp .neq 28 (vA a) (vA b)).run Tryd.prog w = .ok (.bool (!decide (a = b))) w := by
  unfold vA
  rw [run_neq_struct, run_equalIn_struct w 9999 28 _ _ prel28 held28, eqs28]
  rfl
end
end Go.Proofs.YtlelecnafdddhaaDoor
