/- Items compared. The examples of the document hold: known. Slices of zeros made: bytes and items. What Pack returns, by name: the text and the error. -/
import Derived.Test.YtecalodcbkljoaaGreatDoorMUnp
import Derived.Laws.StructEq
import Derived.Test.YtecalodcbkljoaaGreatDoorMPck
namespace Go.Proofs.YtecalodcbkljoaaGreatDoor
open Go.RowKit
deriving instance DecidableEq for It
section
variable {P : Program} (w : World)
theorem part_c (t : TypeId) (cs : Array Value) (i : Nat) (v : Value) (d : TypeDesc) (hu : P.underlying t = some d) (hd : (match d with | .struct _ | .array _ _ => false | _ => true) = true) (hv : cs[i]? = some v) : (part t cs i).run P w = .ok v w := by
  cases d <;> first | (simp [part, isAgg, run_underlying hu, hv]; done) | cases hd
theorem part_a (t e : TypeId) (cs : Array Value) (i n : Nat) (hu : P.underlying t = some (.array n e)) (hs : (P.info? t).map (·.size) = some n) : (part t cs i).run P w = .ok (.agg (cs.extract i (i + n))) w := by
  cases hq : P.info? t with
  | none => rw [hq] at hs; cases hs
  | some x =>
    rw [hq] at hs
    have hx : x.size = n := by simpa using hs
    simp [part, isAgg, run_underlying hu, sizeOf, typeInfo, run_program, hq, hx]
theorem eqF_nil (d : Nat) (xs ys : Array Value) : (Op.eqFields d xs ys []).run P w = .ok true w := by simp [Op.eqFields]
theorem eqF_cons {d : Nat} {xs ys : Array Value} {f : Field} {fs : List Field} {a b : Value} {r q : Bool} (hn : f.name ≠ "_") (h1 : (part f.type xs f.offset).run P w = .ok a w) (h2 : (part f.type ys f.offset).run P w = .ok b w) (h3 : (Op.equalIn d f.type a b).run P w = .ok r w)
    (h4 : (Op.eqFields d xs ys fs).run P w = .ok q w) : (Op.eqFields d xs ys (f :: fs)).run P w = .ok (r && q) w := by
  cases r <;> simp [Op.eqFields, hn, h1, h2, h3, h4]
end
theorem list_ext (l : List Value) (i n : Nat) (r : List Value) (h : (l.drop i).take n = r) : l.toArray.extract i (i + n) = r.toArray := by
  rw [← h]
  apply Array.ext'
  simp [List.take_drop]
theorem beqL (a b : ByteArray) : (a.toList == b.toList) = decide (a = b) := by
  by_cases h : a = b
  · subst h; simp
  · have h2 : ¬ a.toList = b.toList := fun e => h (by
      rw [ByteArray.toList_eq, ByteArray.toList_eq] at e
      exact ByteArray.ext (Array.ext' e))
    simp [h, h2]
theorem cX_at {x : It} {k : Nat} {v : Value} (h : (aX x)[k]? = some v) : (cX x)[k]? = some v := by
  unfold aX at h
  rwa [List.getElem?_toArray] at h
section
variable (w : World)
theorem eqidB (d : Nat) (a b : Id) : (Op.equalIn (d + 2) 37 (vI a) (vI b)).run Tryz.prog w = .ok (decide (a = b)) w := by
  obtain ⟨i, h1, h2⟩ := info5
  unfold vI cI
  rw [run_equalIn_bytes w d 32 37 5 i a.1 b.1 Tryz.underlying37 Tryz.underlying5 h1 h2 a.2 b.2]
  simp [Subtype.ext_iff]
theorem idpartB (l : List Value) (i : Nat) (x : Id) (h : (l.drop i).take 32 = cI x) : (part 37 l.toArray i).run Tryz.prog w = .ok (vI x) w := by
  rw [part_a w 37 5 _ i 32 Tryz.underlying37 size37, list_ext l i 32 _ h]
  rfl
theorem eqsB (a b : It) : (Op.eqFields 9999 (cX a).toArray (cX b).toArray (Tryz.prog.fieldsOf 64).toList).run Tryz.prog w = .ok (decide (a = b)) w := by
  simp only [Program.fieldsOf, Tryz.underlying64]
  refine Eq.trans (eqF_cons w (by decide) (idpartB w _ 0 _ (cX_id a)) (idpartB w _ 0 _ (cX_id b)) (eqidB w 9997 _ _) (eqF_cons w (by decide) (part_c w 9 _ 32 _ _ Tryz.underlying9 rfl (aX_32 a)) (part_c w 9 _ 32 _ _ Tryz.underlying9 rfl (aX_32 b)) (run_equalIn_string w 9998 9 _ _ Tryz.underlying9) (eqF_nil w _ _ _))) ?_
  congr 1
  rw [Bool.eq_iff_iff]
  simp only [Bool.and_eq_true, decide_eq_true_eq, beqL, and_true]
  cases a; cases b; simp [It.mk.injEq]
theorem prelB : Tryz.prog.underlying 64 = some (.struct (Tryz.prog.fieldsOf 64)) := by rw [Program.fieldsOf, Tryz.underlying64]
theorem heldB : Tryz.prog.stoodInHeld 64 = false := by kernel_rfl
theorem guardB : Tryz.prog.eqGuardType Tryz.prog.depth 64 = false := by kernel_rfl
@[go_sem] theorem eqGuardB (op : BinOp) (x y : Operand) (a b : It) : (eqGuard op 64 x y (vX a) (vX b)).run Tryz.prog w = .ok () w := run_eqGuard_agg w op 64 x y _ _ guardB
@[go_sem] theorem eqlB (a b : It) : (binOp .eql 64 (vX a) (vX b)).run Tryz.prog w = .ok (.bool (decide (a = b))) w := by
  unfold vX
  rw [run_eql_struct, run_equalIn_struct w 9999 64 _ _ prelB heldB, eqsB]
  rfl
@[go_sem] theorem neqB (a b : It) : (binOp .neq 64 (vX a) (vX b)).run Tryz.prog w = .ok (.bool (!decide (a = b))) w := by
  unfold vX
  rw [run_neq_struct, run_equalIn_struct w 9999 64 _ _ prelB heldB, eqsB]
  rfl
theorem eqidF (d : Nat) (a b : Id) : (Op.equalIn (d + 2) 36 (vI a) (vI b)).run Tryz.prog w = .ok (decide (a = b)) w := by
  obtain ⟨i, h1, h2⟩ := info5
  unfold vI cI
  rw [run_equalIn_bytes w d 32 36 5 i a.1 b.1 Tryz.underlying36 Tryz.underlying5 h1 h2 a.2 b.2]
  simp [Subtype.ext_iff]
theorem idpartF (l : List Value) (i : Nat) (x : Id) (h : (l.drop i).take 32 = cI x) : (part 36 l.toArray i).run Tryz.prog w = .ok (vI x) w := by
  rw [part_a w 36 5 _ i 32 Tryz.underlying36 size36, list_ext l i 32 _ h]
  rfl
theorem eqsF (a b : It) : (Op.eqFields 9999 (cX a).toArray (cX b).toArray (Tryz.prog.fieldsOf 39).toList).run Tryz.prog w = .ok (decide (a = b)) w := by
  simp only [Program.fieldsOf, Tryz.underlying39]
  refine Eq.trans (eqF_cons w (by decide) (idpartF w _ 0 _ (cX_id a)) (idpartF w _ 0 _ (cX_id b)) (eqidF w 9997 _ _) (eqF_cons w (by decide) (part_c w 9 _ 32 _ _ Tryz.underlying9 rfl (aX_32 a)) (part_c w 9 _ 32 _ _ Tryz.underlying9 rfl (aX_32 b)) (run_equalIn_string w 9998 9 _ _ Tryz.underlying9) (eqF_nil w _ _ _))) ?_
  congr 1
  rw [Bool.eq_iff_iff]
  simp only [Bool.and_eq_true, decide_eq_true_eq, beqL, and_true]
  cases a; cases b; simp [It.mk.injEq]
theorem prelF : Tryz.prog.underlying 39 = some (.struct (Tryz.prog.fieldsOf 39)) := by rw [Program.fieldsOf, Tryz.underlying39]
theorem heldF : Tryz.prog.stoodInHeld 39 = false := by kernel_rfl
theorem guardF : Tryz.prog.eqGuardType Tryz.prog.depth 39 = false := by kernel_rfl
@[go_sem] theorem eqGuardF (op : BinOp) (x y : Operand) (a b : It) : (eqGuard op 39 x y (vX a) (vX b)).run Tryz.prog w = .ok () w := run_eqGuard_agg w op 39 x y _ _ guardF
@[go_sem] theorem eqlF (a b : It) : (binOp .eql 39 (vX a) (vX b)).run Tryz.prog w = .ok (.bool (decide (a = b))) w := by
  unfold vX
  rw [run_eql_struct, run_equalIn_struct w 9999 39 _ _ prelF heldF, eqsF]
  rfl
@[go_sem] theorem neqF (a b : It) : (binOp .neq 39 (vX a) (vX b)).run Tryz.prog w = .ok (.bool (!decide (a = b))) w := by
  unfold vX
  rw [run_neq_struct, run_equalIn_struct w 9999 39 _ _ prelF heldF, eqsF]
  rfl
end
end Go.Proofs.YtecalodcbkljoaaGreatDoor
namespace Go.Proofs.YtecalodcbkljoaaGreatDoor
open Go.RowKit
section
variable (w : World)
@[go_sem] theorem bl_itB (x : Id) (t : ByteArray) : (blA 64 #[(0, vI x), (1, .string t)]).run Tryz.prog w = .ok (vX ⟨x, t⟩) w := by
  revert x
  apply Id.cases
  intros
  kernel_rfl
@[go_sem] theorem bl_itF (x : Id) (t : ByteArray) : (blA 39 #[(0, vI x), (1, .string t)]).run Tryz.prog w = .ok (vX ⟨x, t⟩) w := by
  revert x
  apply Id.cases
  intros
  kernel_rfl
@[go_sem] theorem bl_itT (t : ByteArray) : (blA 64 #[(1, .string t)]).run Tryz.prog w = .ok (vX ⟨zI, t⟩) w := by kernel_rfl
def oneI : Id := ⟨1 :: List.replicate 31 0, by simp⟩
def oneX : It := ⟨oneI, ⟨#[120, 10]⟩⟩
@[go_sem] theorem bl_id1 : (blA 37 #[(0, .int .u8 1)]).run Tryz.prog w = .ok (vI oneI) w := by kernel_rfl
end
theorem batS_nil : batS [] = ⟨#[98, 97, 116, 99, 104, 32, 48, 10, 101, 110, 100, 10]⟩ := by kernel_rfl
theorem chk_nil : chkB [] = (12, 0) := by kernel_rfl
theorem chk_one : chkB [oneX] = (130, 0) := by kernel_rfl
theorem unp_cut : unpackP (bl ⟨#[98, 97, 116, 99, 104, 32, 48, 10, 101, 110, 100]⟩) = .error (23, 11) := by kernel_rfl
theorem unp_bad : unpackP (bl ⟨#[98, 97, 116, 99, 104, 32, 49, 10, 101, 110, 100, 10]⟩) = .error (3, 8) := by kernel_rfl
theorem bl_batS (l : List It) : bl (batS l) = batL l := by simp [batS]
theorem chk_ok {l : List It} (h : (chkB l).2 = 0) : (∀ x ∈ l, x.text.size ≤ 65536) ∧ l.length ≤ 1000 ∧ (batL l).length ≤ 4194304 ∧ (chkB l).1 = (batL l).length := by
  rw [batL_len]
  unfold chkB at h ⊢
  split at h
  · cases h
  · split at h
    · cases h
    · rename_i h1 h2
      split at h
      · cases h
      · rename_i h3
        rw [if_neg h1, if_neg h2, if_neg h3]
        refine ⟨fun x hx => ?_, by omega, by omega, rfl⟩
        have h4 : ¬ ∃ x ∈ l, 65536 < x.text.size := by simpa using h2
        have h5 : ¬ 65536 < x.text.size := fun h => h4 ⟨x, hx, h⟩
        omega
theorem unp_pack {l : List It} (h : (chkB l).2 = 0) : unpackP (bl (batS l)) = .ok l := by
  obtain ⟨h1, h2, h3, -⟩ := chk_ok h
  rw [bl_batS]
  exact unpackP_batL l h1 h2 h3
theorem batS_size (l : List It) : (batS l).size = (batL l).length := by rw [← bl_length, bl_batS]
theorem one_size : (batS [oneX]).size ≤ 1073741824 := by
  rw [batS_size]
  have := (chk_ok (l := [oneX]) (by rw [chk_one])).2.2.1
  omega
theorem UnpR.fail {e : Int} {k : Nat} {w w' : World} {en : Ending} (h : UnpR (.error (e, k)) w en w') : ∃ A c, en = .returned (.tuple #[.slice A 0 c, .int .i64 (k : Int), .int .i64 e]) ∧ Below w.heap.size w w' := by
  obtain ⟨A, c, rfl, -, -, hb⟩ := h
  exact ⟨A, c, rfl, hb⟩
theorem UnpR.good {l : List It} {w w' : World} {en : Ending} (h : UnpR (.ok l) w en w') : ∃ A c, en = .returned (.tuple #[.slice A l.length c, .int .i64 0, .int .i64 0]) ∧ l.length ≤ c ∧ Sl w' cX A l ∧ Below w.heap.size w w' := h
set_option maxRecDepth 100000 in
set_option maxHeartbeats 6400000 in
theorem known_c (w : World) (hL : Laid w) : Calls Tryz.prog 12 #[] w fun e w' => e = .returned (.bool true) ∧ Below w.heap.size w w' := by
  have HLA := Lib.hid hL
  have HP := Lib.hid (pack_l none 0 [] (12, 0) chk_nil w hL (Sl.nil _ _ _) (by decide) (by simp))
  clear hL
  go_enter Tryz.func12, Tryz.ntmps12
  go_wp2_with (first
    | (have hh := HP; clear hh; go_at_call 14; refine HP.out.mono ?_; rintro e w1 ⟨rfl, hb1⟩; rw [if_pos rfl, batS_nil]; have H1 := Lib.hid hb1; clear hb1 HP)
    | (have hh := H1; clear hh; go_at_call 9; refine (unpack_s _ _ (HLA.out.keep H1.out) (by decide)).mono ?_; rintro e w2 hu2; rw [unp_cut] at hu2; obtain ⟨A2, c2, rfl, hb2⟩ := hu2.fail; clear hu2; have H2 := Lib.hid (Below.step H1.out hb2); clear hb2 H1)
    | (have hh := H2; clear hh; go_at_call 9; refine (unpack_s _ _ (HLA.out.keep H2.out) (by decide)).mono ?_; rintro e w3 hu3; rw [unp_bad] at hu3; obtain ⟨A3, c3, rfl, hb3⟩ := hu3.fail; clear hu3; have H3 := Lib.hid (Below.step H2.out hb3); clear hb3 H2)
    | (go_at_call 14; refine (pack_l _ 1 [oneX] (130, 0) chk_one _ (HLA.out.keep (Below.step H3.out (below_alloc _ _))) (sl_newX _ oneX _) (by decide) (by decide)).mono ?_; rintro e w4 ⟨rfl, hb4⟩; rw [if_pos rfl]; have H4 := Lib.hid (Below.step (Below.step H3.out (below_alloc _ _)) hb4); clear hb4 H3)
    | (have hh := H4; clear hh; go_at_call 9; refine (unpack_s _ _ (HLA.out.keep H4.out) one_size).mono ?_; rintro e w5 hu5; rw [unp_pack (by rw [chk_one])] at hu5; obtain ⟨A5, c5, rfl, -, hs5, hb5⟩ := hu5.good; obtain ⟨ad, rfl, hat⟩ := Sl.at_ (k := 0) cX_length hs5 (by decide); have hok := hat.ok; have hrd := hat.rd; rw [cX_length] at hok hrd; change rdA w5 (ad.add (0 * 33)) 33 = vX oneX at hrd; rw [Nat.zero_mul, show ad.add 0 = ad from by simp [Addr.add]] at hok hrd; change rdA w5 ad 33 = vX ⟨oneI, ⟨#[120, 10]⟩⟩ at hrd; clear hu5 hs5 hat; have H5 := Lib.hid (Below.step H4.out hb5); clear hb5 H4))
  go_ret
  exact ⟨rfl, H5.out⟩
end Go.Proofs.YtecalodcbkljoaaGreatDoor
namespace Go.Proofs.YtecalodcbkljoaaGreatDoor
open Go.RowKit
theorem flat_rep (l : List Value) (s : Nat) (hs : l.length = s) (n i : Nat) (h : i < n * s) : ((List.replicate n l).flatten)[i]? = l[i % s]? := by
  induction n generalizing i with
  | zero => omega
  | succ n ih =>
    rw [List.replicate_succ, List.flatten_cons, List.getElem?_append, hs]
    split
    · rename_i hi
      rw [Nat.mod_eq_of_lt hi]
    · rename_i hi
      rw [ih (i - s) (by rw [Nat.succ_mul] at h; omega), Nat.mod_eq_sub_mod (by omega : i ≥ s)]
theorem made_flat (z : Array Value) (l : List Value) (s n : Nat) (hz : z.toList = l) (hs : l.length = s) (h0 : 0 < s) : madeCells z (n * s) = ((List.replicate n l).flatten).toArray := by
  have hsz : z.size = s := by rw [← hs, ← hz, Array.length_toList]
  apply Array.ext'
  refine List.ext_getElem? fun i => ?_
  rw [Array.getElem?_toList]
  by_cases hi : i < n * s
  · rw [flat_rep l s hs n i hi, Array.getElem?_eq_getElem (by rw [size_madeCells]; exact hi)]
    unfold madeCells
    rw [Array.getElem_map, Array.getElem_range, hsz]
    have hm : i % s < s := Nat.mod_lt _ h0
    rw [getElem!_pos z (i % s) (by omega), ← hz, List.getElem?_eq_getElem (by rw [Array.length_toList]; omega), Array.getElem_toList]
  · rw [Array.getElem?_eq_none (by rw [size_madeCells]; omega), List.getElem?_eq_none (by simp [hs]; omega)]
theorem rep_flat {α : Type} (enc : α → List Value) (x : α) (n : Nat) : (List.replicate n x).flatMap enc = (List.replicate n (enc x)).flatten := by
  rw [List.flatMap_def, List.map_replicate]
theorem zeroB : ∃ i z, Tryz.prog.info? 5 = some i ∧ i.zero = some z ∧ i.size = 1 ∧ i.bytes = 1 ∧ z.cells.toList = [cB 0] := by
  have h : (Tryz.prog.info? 5).map (fun i => (i.zero.map (·.cells.toList), i.size, i.bytes)) = some (some [cB 0], 1, 1) := by kernel_rfl
  cases hq : Tryz.prog.info? 5 with
  | none => rw [hq] at h; cases h
  | some i =>
    rw [hq] at h
    simp only [Option.map_some, Option.some.injEq, Prod.mk.injEq] at h
    obtain ⟨h1, h2, h3⟩ := h
    obtain ⟨z, hz, hc⟩ := Option.map_eq_some_iff.1 h1
    exact ⟨i, z, rfl, hz, h2, h3, hc⟩
theorem zeroX : ∃ i z, Tryz.prog.info? 64 = some i ∧ i.zero = some z ∧ i.size = 33 ∧ i.bytes = 48 ∧ z.cells.toList = cX zX := by
  have h : (Tryz.prog.info? 64).map (fun i => (i.zero.map (·.cells.toList), i.size, i.bytes)) = some (some (cX zX), 33, 48) := by kernel_rfl
  cases hq : Tryz.prog.info? 64 with
  | none => rw [hq] at h; cases h
  | some i =>
    rw [hq] at h
    simp only [Option.map_some, Option.some.injEq, Prod.mk.injEq] at h
    obtain ⟨h1, h2, h3⟩ := h
    obtain ⟨z, hz, hc⟩ := Option.map_eq_some_iff.1 h1
    exact ⟨i, z, rfl, hz, h2, h3, hc⟩
theorem make_b (w : World) (n : Nat) (h : n ≤ 1073741824) : ∃ w', (Instr.makeSlice 47 (.int .i64 (n : Int)) (.int .i64 (n : Int))).run Tryz.prog w = .ok (.slice (some ⟨w.heap.size, 0, none⟩) n n) w' ∧ Below w.heap.size w w' ∧ Sl w' c1 (some ⟨w.heap.size, 0, none⟩) (List.replicate n 0) := by
  obtain ⟨i, z, hi, hz, hsz, hby, hc⟩ := zeroB
  have h1 := run_make (P := Tryz.prog) w 47 5 i z underBs hi hz .i64 .i64 n n (by omega) (Int.le_refl _) (by rw [hby]; omega) (by omega)
  rw [Int.toNat_natCast, hsz, made_flat z.cells (c1 0) 1 n hc rfl (by decide), ← rep_flat] at h1
  exact ⟨_, h1, below_alloc _ _, fun _ => ⟨_, rfl, at_new w _ _ _ rfl⟩⟩
theorem make_x (w : World) (n : Nat) (h : n ≤ 1073741824) : ∃ w', (Instr.makeSlice 22 (.int .i64 (n : Int)) (.int .i64 (n : Int))).run Tryz.prog w = .ok (.slice (some ⟨w.heap.size, 0, none⟩) n n) w' ∧ Below w.heap.size w w' ∧ Sl w' cX (some ⟨w.heap.size, 0, none⟩) (List.replicate n zX) := by
  obtain ⟨i, z, hi, hz, hsz, hby, hc⟩ := zeroX
  have h1 := run_make (P := Tryz.prog) w 22 64 i z underXs hi hz .i64 .i64 n n (by omega) (Int.le_refl _) (by rw [hby]; omega) (by omega)
  rw [Int.toNat_natCast, hsz, made_flat z.cells (cX zX) 33 n hc (cX_length _) (by decide), ← rep_flat] at h1
  exact ⟨_, h1, below_alloc _ _, fun _ => ⟨_, rfl, at_new w _ _ _ rfl⟩⟩
/-- Items of zeros: what check says of them. -/
theorem chk_zero (n : Nat) (h : n ≤ 70000) : (chkB [⟨zI, ⟨(List.replicate n (0 : UInt8)).toArray⟩⟩]).2 = if n ≤ 65536 then 0 else 5 := by
  have hl : (Lib.itoa (n : Int)).length ≤ 5 := itoa_len 5 n (by omega) (by omega)
  unfold chkB
  rw [if_neg (by simp)]
  have hs : (⟨(List.replicate n (0 : UInt8)).toArray⟩ : ByteArray).size = n := by show (List.replicate n (0 : UInt8)).toArray.size = n; simp
  simp only [List.any_cons, List.any_nil, Bool.or_false, hs, decide_eq_true_eq, List.length_singleton, sumN, List.map_cons, List.map_nil, List.sum_cons, List.sum_nil, itN]
  by_cases hn : n ≤ 65536
  · rw [if_neg (by omega), if_pos hn, if_neg (by have : (Lib.itoa ((1 : Nat) : Int)).length = 1 := (by kernel_rfl); unfold sizeN; omega)]
  · rw [if_pos (by omega), if_neg hn]
theorem chk_many (n : Nat) (h : n ≤ 1000000) : (chkB (List.replicate n zX)).2 = if n ≤ 1000 then 0 else 9 := by
  unfold chkB
  rw [List.length_replicate]
  by_cases hn : n ≤ 1000
  · have hl : (Lib.itoa (n : Int)).length ≤ 4 := itoa_len 4 n (by omega) (by omega)
    have h1 : itN zX = 116 := by kernel_rfl
    have h2 : (List.replicate n zX).any (fun x => decide (65536 < x.text.size)) = false := by
      rw [List.any_eq_false]
      intro x hx
      rw [(List.mem_replicate.1 hx).2]
      decide
    rw [if_neg (by omega), if_pos hn, h2, if_neg (by decide), if_neg (by
      unfold sizeN sumN
      rw [List.map_replicate, List.sum_replicate_nat, h1]
      omega)]
  · rw [if_pos (by omega), if_neg hn]
end Go.Proofs.YtecalodcbkljoaaGreatDoor
namespace Go.Proofs.YtecalodcbkljoaaGreatDoor
open Go.RowKit
/-- The text that Pack returns. -/
def pkS (l : List It) : ByteArray := if (chkB l).2 = 0 then batS l else ⟨#[]⟩
theorem pkS_size (l : List It) : (chkB l).1 = (pkS l).size := by
  unfold pkS
  split
  · rename_i h
    rw [(chk_ok h).2.2.2, batS_size]
  · rename_i h
    unfold chkB at h ⊢
    split
    · rfl
    · split
      · rfl
      · split
        · rfl
        · rename_i h1 h2 h3
          rw [if_neg h1, if_neg h2, if_neg h3] at h
          exact absurd rfl h
theorem pkS_le (l : List It) : (pkS l).size ≤ 4194304 := by
  unfold pkS
  split
  · rename_i h
    rw [batS_size]
    exact (chk_ok h).2.2.1
  · decide
theorem pack_p (A : Option Addr) (c : Nat) (l : List It) (w : World) (hL : Laid w) (hs : Sl w cX A l) (hn : l.length ≤ 1073741824) (hx : ∀ x ∈ l, x.text.size ≤ 1073741824) :
    Calls Tryz.prog 14 #[.slice A l.length c] w fun e w' => e = .returned (.tuple #[.string (pkS l), .int .i64 (chkB l).2]) ∧ Below w.heap.size w w' :=
  pack_l A c l _ rfl w hL hs hn hx
theorem size_p (A : Option Addr) (c : Nat) (l : List It) (w : World) (hL : Laid w) (hs : Sl w cX A l) (hn : l.length ≤ 1073741824) (hx : ∀ x ∈ l, x.text.size ≤ 1073741824) :
    Calls Tryz.prog 24 #[.slice A l.length c] w fun e w' => e = .returned (.int .i64 ((pkS l).size : Int)) ∧ Below w.heap.size w w' := by
  rw [← pkS_size]
  exact size_of A c l _ rfl w hL hs hn hx
theorem unp_pk0 {l : List It} (h : (chkB l).2 = 0) : unpackP (bl (pkS l)) = .ok l := by
  unfold pkS
  rw [if_pos h, unp_pack h]
theorem unp_pk1 {l : List It} (h : (chkB l).2 ≠ 0) : unpackP (bl (pkS l)) = .error (23, 0) := by
  unfold pkS
  rw [if_neg h]
  kernel_rfl
end Go.Proofs.YtecalodcbkljoaaGreatDoor
