/- Items compared. The examples of the document hold: known. -/
import Derived.Test.YtecalodcbkljoaaGreatDoorMUnp
import Derived.Laws.StructEq
import Derived.Test.YtecalodcbkljoaaGreatDoorMPck
namespace Go.Proofs.YtecalodcbkljoaaGreatDoor
open Go.RowKit
deriving instance DecidableEq for It
section
variable {P : Program} (w : World)
theorem part_c (t : TypeId) (cs : Array Value) (i : Nat) (v : Value) (d : TypeDesc) (hu : P.underlying t = some d) (hd : (match d with | .struct _ | .array _ _ => false | _ => true) = true) (hv : cs[i]? = some v) : (part t cs i).run P w = .ok v w := by
  cases d <;> first | (simp [part, isAgg, run_underlying hu, hv]; done) | cases hd
theorem part_a (t e : TypeId) (cs : Array Value) (i n : Nat) (hu : P.underlying t = some (.array n e)) (hs : (P.info? t).map (·.size) = some n) : (part t cs i).run P w = .ok (.agg (cs.extract i (i + n))) w := by
  cases hq : P.info? t with
  | none => rw [hq] at hs; cases hs
  | some x =>
    rw [hq] at hs
    have hx : x.size = n := by simpa using hs
    simp [part, isAgg, run_underlying hu, sizeOf, typeInfo, run_program, hq, hx]
theorem eqF_nil (d : Nat) (xs ys : Array Value) : (Op.eqFields d xs ys []).run P w = .ok true w := by simp [Op.eqFields]
theorem eqF_cons {d : Nat} {xs ys : Array Value} {f : Field} {fs : List Field} {a b : Value} {r q : Bool} (hn : f.name ≠ "_") (h1 : (part f.type xs f.offset).run P w = .ok a w) (h2 : (part f.type ys f.offset).run P w = .ok b w) (h3 : (Op.equalIn d f.type a b).run P w = .ok r w)
    (h4 : (Op.eqFields d xs ys fs).run P w = .ok q w) : (Op.eqFields d xs ys (f :: fs)).run P w = .ok (r && q) w := by
  cases r <;> simp [Op.eqFields, hn, h1, h2, h3, h4]
end
theorem list_ext (l : List Value) (i n : Nat) (r : List Value) (h : (l.drop i).take n = r) : l.toArray.extract i (i + n) = r.toArray := by
  rw [← h]
  apply Array.ext'
  simp [List.take_drop]
theorem beqL (a b : ByteArray) : (a.toList == b.toList) = decide (a = b) := by
  by_cases h : a = b
  · subst h; simp
  · have h2 : ¬ a.toList = b.toList := fun e => h (by
      rw [ByteArray.toList_eq, ByteArray.toList_eq] at e
      exact ByteArray.ext (Array.ext' e))
    simp [h, h2]
theorem cX_at {x : It} {k : Nat} {v : Value} (h : (aX x)[k]? = some v) : (cX x)[k]? = some v := by
  unfold aX at h
  rwa [List.getElem?_toArray] at h
section
variable (w : World)
theorem eqidB (d : Nat) (a b : Id) : (Op.equalIn (d + 2) 37 (vI a) (vI b)).run Tryz.prog w = .ok (decide (a = b)) w := by
  obtain ⟨i, h1, h2⟩ := info5
  unfold vI cI
  rw [run_equalIn_bytes w d 32 37 5 i a.1 b.1 Tryz.underlying37 Tryz.underlying5 h1 h2 a.2 b.2]
  simp [Subtype.ext_iff]
theorem idpartB (l : List Value) (i : Nat) (x : Id) (h : (l.drop i).take 32 = cI x) : (part 37 l.toArray i).run Tryz.prog w = .ok (vI x) w := by
  rw [part_a w 37 5 _ i 32 Tryz.underlying37 size37, list_ext l i 32 _ h]
  rfl
theorem eqsB (a b : It) : (Op.eqFields 9999 (cX a).toArray (cX b).toArray (Tryz.prog.fieldsOf 64).toList).run Tryz.prog w = .ok (decide (a = b)) w := by
  simp only [Program.fieldsOf, Tryz.underlying64]
  refine Eq.trans (eqF_cons w (by decide) (idpartB w _ 0 _ (cX_id a)) (idpartB w _ 0 _ (cX_id b)) (eqidB w 9997 _ _) (eqF_cons w (by decide) (part_c w 9 _ 32 _ _ Tryz.underlying9 rfl (aX_32 a)) (part_c w 9 _ 32 _ _ Tryz.underlying9 rfl (aX_32 b)) (run_equalIn_string w 9998 9 _ _ Tryz.underlying9) (eqF_nil w _ _ _))) ?_
  congr 1
  rw [Bool.eq_iff_iff]
  simp only [Bool.and_eq_true, decide_eq_true_eq, beqL, and_true]
  cases a; cases b; simp [It.mk.injEq]
theorem prelB : Tryz.prog.underlying 64 = some (.struct (Tryz.prog.fieldsOf 64)) := by rw [Program.fieldsOf, Tryz.underlying64]
theorem heldB : Tryz.prog.stoodInHeld 64 = false := by kernel_rfl
theorem guardB : Tryz.prog.eqGuardType Tryz.prog.depth 64 = false := by kernel_rfl
@[go_sem] theorem eqGuardB (op : BinOp) (x y : Operand) (a b : It) : (eqGuard op 64 x y (vX a) (vX b)).run Tryz.prog w = .ok () w := run_eqGuard_agg w op 64 x y _ _ guardB
@[go_sem] theorem eqlB (a b : It) : (binOp .eql 64 (vX a) (vX b)).run Tryz.prog w = .ok (.bool (decide (a = b))) w := by
  unfold vX
  rw [run_eql_struct, run_equalIn_struct w 9999 64 _ _ prelB heldB, eqsB]
  rfl
@[go_sem] theorem neqB (a b : It) : (binOp .neq 64 (vX a) (vX b)).run Tryz.prog w = .ok (.bool (!decide (a = b))) w := by
  unfold vX
  rw [run_neq_struct, run_equalIn_struct w 9999 64 _ _ prelB heldB, eqsB]
  rfl
theorem eqidF (d : Nat) (a b : Id) : (Op.equalIn (d + 2) 36 (vI a) (vI b)).run Tryz.prog w = .ok (decide (a = b)) w := by
  obtain ⟨i, h1, h2⟩ := info5
  unfold vI cI
  rw [run_equalIn_bytes w d 32 36 5 i a.1 b.1 Tryz.underlying36 Tryz.underlying5 h1 h2 a.2 b.2]
  simp [Subtype.ext_iff]
theorem idpartF (l : List Value) (i : Nat) (x : Id) (h : (l.drop i).take 32 = cI x) : (part 36 l.toArray i).run Tryz.prog w = .ok (vI x) w := by
  rw [part_a w 36 5 _ i 32 Tryz.underlying36 size36, list_ext l i 32 _ h]
  rfl
theorem eqsF (a b : It) : (Op.eqFields 9999 (cX a).toArray (cX b).toArray (Tryz.prog.fieldsOf 39).toList).run Tryz.prog w = .ok (decide (a = b)) w := by
  simp only [Program.fieldsOf, Tryz.underlying39]
  refine Eq.trans (eqF_cons w (by decide) (idpartF w _ 0 _ (cX_id a)) (idpartF w _ 0 _ (cX_id b)) (eqidF w 9997 _ _) (eqF_cons w (by decide) (part_c w 9 _ 32 _ _ Tryz.underlying9 rfl (aX_32 a)) (part_c w 9 _ 32 _ _ Tryz.underlying9 rfl (aX_32 b)) (run_equalIn_string w 9998 9 _ _ Tryz.underlying9) (eqF_nil w _ _ _))) ?_
  congr 1
  rw [Bool.eq_iff_iff]
  simp only [Bool.and_eq_true, decide_eq_true_eq, beqL, and_true]
  cases a; cases b; simp [It.mk.injEq]
theorem prelF : Tryz.prog.underlying 39 = some (.struct (Tryz.prog.fieldsOf 39)) := by rw [Program.fieldsOf, Tryz.underlying39]
theorem heldF : Tryz.prog.stoodInHeld 39 = false := by kernel_rfl
theorem guardF : Tryz.prog.eqGuardType Tryz.prog.depth 39 = false := by kernel_rfl
@[go_sem] theorem eqGuardF (op : BinOp) (x y : Operand) (a b : It) : (eqGuard op 39 x y (vX a) (vX b)).run Tryz.prog w = .ok () w := run_eqGuard_agg w op 39 x y _ _ guardF
@[go_sem] theorem eqlF (a b : It) : (binOp .eql 39 (vX a) (vX b)).run Tryz.prog w = .ok (.bool (decide (a = b))) w := by
  unfold vX
  rw [run_eql_struct, run_equalIn_struct w 9999 39 _ _ prelF heldF, eqsF]
  rfl
@[go_sem] theorem neqF (a b : It) : (binOp .neq 39 (vX a) (vX b)).run Tryz.prog w = .ok (.bool (!decide (a = b))) w := by
  unfold vX
  rw [run_neq_struct, run_equalIn_struct w 9999 39 _ _ prelF heldF, eqsF]
  rfl
end
end Go.Proofs.YtecalodcbkljoaaGreatDoor
namespace Go.Proofs.YtecalodcbkljoaaGreatDoor
open Go.RowKit
section
variable (w : World)
@[go_sem] theorem bl_itB (x : Id) (t : ByteArray) : (blA 64 #[(0, vI x), (1, .string t)]).run Tryz.prog w = .ok (vX ⟨x, t⟩) w := by
  revert x
  apply Id.cases
  intros
  kernel_rfl
@[go_sem] theorem bl_itF (x : Id) (t : ByteArray) : (blA 39 #[(0, vI x), (1, .string t)]).run Tryz.prog w = .ok (vX ⟨x, t⟩) w := by
  revert x
  apply Id.cases
  intros
  kernel_rfl
@[go_sem] theorem bl_itT (t : ByteArray) : (blA 64 #[(1, .string t)]).run Tryz.prog w = .ok (vX ⟨zI, t⟩) w := by kernel_rfl
def oneI : Id := ⟨1 :: List.replicate 31 0, by simp⟩
def oneX : It := ⟨oneI, ⟨#[120, 10]⟩⟩
@[go_sem] theorem bl_id1 : (blA 37 #[(0, .int .u8 1)]).run Tryz.prog w = .ok (vI oneI) w := by kernel_rfl
end
theorem batS_nil : batS [] = ⟨#[98, 97, 116, 99, 104, 32, 48, 10, 101, 110, 100, 10]⟩ := by kernel_rfl
theorem chk_nil : chkB [] = (12, 0) := by kernel_rfl
theorem chk_one : chkB [oneX] = (130, 0) := by kernel_rfl
theorem unp_cut : unpackP (bl ⟨#[98, 97, 116, 99, 104, 32, 48, 10, 101, 110, 100]⟩) = .error (23, 11) := by kernel_rfl
theorem unp_bad : unpackP (bl ⟨#[98, 97, 116, 99, 104, 32, 49, 10, 101, 110, 100, 10]⟩) = .error (3, 8) := by kernel_rfl
theorem bl_batS (l : List It) : bl (batS l) = batL l := by simp [batS]
theorem chk_ok {l : List It} (h : (chkB l).2 = 0) : (∀ x ∈ l, x.text.size ≤ 65536) ∧ l.length ≤ 1000 ∧ (batL l).length ≤ 4194304 ∧ (chkB l).1 = (batL l).length := by
  rw [batL_len]
  unfold chkB at h ⊢
  split at h
  · cases h
  · split at h
    · cases h
    · rename_i h1 h2
      split at h
      · cases h
      · rename_i h3
        rw [if_neg h1, if_neg h2, if_neg h3]
        refine ⟨fun x hx => ?_, by omega, by omega, rfl⟩
        have h4 : ¬ ∃ x ∈ l, 65536 < x.text.size := by simpa using h2
        have h5 : ¬ 65536 < x.text.size := fun h => h4 ⟨x, hx, h⟩
        omega
theorem unp_pack {l : List It} (h : (chkB l).2 = 0) : unpackP (bl (batS l)) = .ok l := by
  obtain ⟨h1, h2, h3, -⟩ := chk_ok h
  rw [bl_batS]
  exact unpackP_batL l h1 h2 h3
theorem batS_size (l : List It) : (batS l).size = (batL l).length := by rw [← bl_length, bl_batS]
theorem one_size : (batS [oneX]).size ≤ 1073741824 := by
  rw [batS_size]
  have := (chk_ok (l := [oneX]) (by rw [chk_one])).2.2.1
  omega
theorem UnpR.fail {e : Int} {k : Nat} {w w' : World} {en : Ending} (h : UnpR (.error (e, k)) w en w') : ∃ A c, en = .returned (.tuple #[.slice A 0 c, .int .i64 (k : Int), .int .i64 e]) ∧ Below w.heap.size w w' := by
  obtain ⟨A, c, rfl, -, -, hb⟩ := h
  exact ⟨A, c, rfl, hb⟩
theorem UnpR.good {l : List It} {w w' : World} {en : Ending} (h : UnpR (.ok l) w en w') : ∃ A c, en = .returned (.tuple #[.slice A l.length c, .int .i64 0, .int .i64 0]) ∧ l.length ≤ c ∧ Sl w' cX A l ∧ Below w.heap.size w w' := h
set_option maxRecDepth 100000 in
set_option maxHeartbeats 6400000 in
theorem known_c (w : World) (hL : Laid w) : Calls Tryz.prog 12 #[] w fun e w' => e = .returned (.bool true) ∧ Below w.heap.size w w' := by
  have HLA := Lib.hid hL
  have HP := Lib.hid (pack_l none 0 [] (12, 0) chk_nil w hL (Sl.nil _ _ _) (by decide) (by simp))
  clear hL
  go_enter Tryz.func12, Tryz.ntmps12
  go_wp2_with (first
    | (have hh := HP; clear hh; go_at_call 14; refine HP.out.mono ?_; rintro e w1 ⟨rfl, hb1⟩; rw [if_pos rfl, batS_nil]; have H1 := Lib.hid hb1; clear hb1 HP)
    | (have hh := H1; clear hh; go_at_call 9; refine (unpack_s _ _ (HLA.out.keep H1.out) (by decide)).mono ?_; rintro e w2 hu2; rw [unp_cut] at hu2; obtain ⟨A2, c2, rfl, hb2⟩ := hu2.fail; clear hu2; have H2 := Lib.hid (Below.step H1.out hb2); clear hb2 H1)
    | (have hh := H2; clear hh; go_at_call 9; refine (unpack_s _ _ (HLA.out.keep H2.out) (by decide)).mono ?_; rintro e w3 hu3; rw [unp_bad] at hu3; obtain ⟨A3, c3, rfl, hb3⟩ := hu3.fail; clear hu3; have H3 := Lib.hid (Below.step H2.out hb3); clear hb3 H2)
    | (go_at_call 14; refine (pack_l _ 1 [oneX] (130, 0) chk_one _ (HLA.out.keep (Below.step H3.out (below_alloc _ _))) (sl_newX _ oneX _) (by decide) (by decide)).mono ?_; rintro e w4 ⟨rfl, hb4⟩; rw [if_pos rfl]; have H4 := Lib.hid (Below.step (Below.step H3.out (below_alloc _ _)) hb4); clear hb4 H3)
    | (have hh := H4; clear hh; go_at_call 9; refine (unpack_s _ _ (HLA.out.keep H4.out) one_size).mono ?_; rintro e w5 hu5; rw [unp_pack (by rw [chk_one])] at hu5; obtain ⟨A5, c5, rfl, -, hs5, hb5⟩ := hu5.good; obtain ⟨ad, rfl, hat⟩ := Sl.at_ (k := 0) cX_length hs5 (by decide); have hok := hat.ok; have hrd := hat.rd; rw [cX_length] at hok hrd; change rdA w5 (ad.add (0 * 33)) 33 = vX oneX at hrd; rw [Nat.zero_mul, show ad.add 0 = ad from by simp [Addr.add]] at hok hrd; change rdA w5 ad 33 = vX ⟨oneI, ⟨#[120, 10]⟩⟩ at hrd; clear hu5 hs5 hat; have H5 := Lib.hid (Below.step H4.out hb5); clear hb5 H4))
  go_ret
  exact ⟨rfl, H5.out⟩
end Go.Proofs.YtecalodcbkljoaaGreatDoor
