/- From a world that meets a row's conditions to what the laws ask: the world's shape, the listed variables; how arguments read. How a command of the reference reads that comes in. -/
import Derived.Test.YtgojaelkdpabkaaGreatDoorRows
import Derived.Test.YtgojaelkdpabkaaGreatDoorKnQ
import Derived.Lay
import Derived.ProofKit
import Derived.OpenShut
import Derived.ShutString
import Derived.ChangeOld
import Derived.Deep.Slices
import Derived.Deep.Strs
import Derived.LaidMore
import Derived.Lib.LaidTab
import Derived.Stop.Joined
import Derived.Stop.LaidErr
import Derived.Test.YtgojaelkdpabkaaGreatDoorLaw304
namespace Go.Proofs.YtgojaelkdpabkaaGreatDoor
section
open Go.ChangeShapes Go.WideShapes Go.ChangeAt Go.RowKit Go.Deep
theorem ownD : ownKnob Tryz.prog.godebug = none := by kernel_rfl
theorem laidOutD : laidOutB Tryz.prog = true := by kernel_rfl
/-- What every row lists. -/
def lst : List (String × DataW Unit) := [("math/bits.deBruijn32tab", Rows.laid_math_bits_deBruijn32tab), ("math/bits.deBruijn64tab", Rows.laid_math_bits_deBruijn64tab), ("internal/strconv.uint64pow10", Rows.laid_internal_strconv_uint64pow10), ("unicode/utf8.acceptRanges", Rows.laid_unicode_utf8_acceptRanges), ("bulletin/command.forms", Rows.laid_bulletin_command_forms), ("unicode/utf8.first", Rows.laid_unicode_utf8_first)]
/-- A contract that asks for the world's shape and for a condition on memory gives the lifted statement. -/
theorem wrapLS {H : Type} {enc : TypeId × Value → H} {a : Assume} {C : Checked} {os : Os} {f : FuncId} {fn : Func} {s : ChangeSpec} {conds : List PathCond} {apart fresh handsOn again : Bool} {X : World → Array Value → Prop}
    (hX : ∀ (w w' : World) (args : Array Value), w.heap = w'.heap → X w args → X w' args)
    (own : ownKnob C.prog.godebug = none) (started : os.Started) (noInit : C.prog.inits.idxOf? f = none) (hfn : C.prog.funcs[f]? = some fn)
    (witness : ∃ (w : World) (tape : Tape) (i : Input), w.os = os ∧ (w.forCall tape i).Shaped C.prog ∧ i.vars = [] ∧ Input.okWide C.prog (w.forCall tape i) .any w.heap.size f i ∧
      ((s.pre enc C.prog fn conds apart (w.forCall tape i).memory i.args ∧ X (w.forCall tape i).memory i.args) ∧ sizedMet enc C.prog fn (OpenSpec.ofChange s) apart (w.forCall tape i).memory i.args) ∧ a.holds C.prog (lone (Frame.enter C.prog f i.args .normal) [] (w.forCall tape i)))
    (contract : ∀ (W : World) (base : Nat) (args : Array Value) (ds gs : List (DataW H)) (before : List MemPlace),
      (∀ (j : Nat) t v, fn.params[j]? = some t → args[j]? = some v → Value.okWide C.prog W .any base t v) →
      DataW.Whole enc C.prog fn.params.toList s.vars apart W args.toList ds gs before →
      X W args → W.ShapedOpen C.prog →
      Calls C.prog f args W fun e W' => ∃ v, e = .returned v ∧ s.post enc C.prog fn apart fresh handsOn again W args v W') :
    ReturnsInHanded a C os f .any (fun w args => (s.pre enc C.prog fn conds apart w args ∧ X w args) ∧ sizedMet enc C.prog fn (OpenSpec.ofChange s) apart w args) (s.post enc C.prog fn apart fresh handsOn again) := by
  refine returnsInHanded_of_calls own started noInit witness ?_
  intro w tape i _ hsh _ hok hpre _
  obtain ⟨_, _, _, fn', hfn', _, _, _, _, hval⟩ := hok
  obtain rfl : fn' = fn := Option.some.inj (hfn'.symm.trans hfn)
  obtain ⟨⟨⟨ds, gs, before, hw, _⟩, hx⟩, _⟩ := hpre
  refine (contract (w.forCall tape i) w.heap.size i.args ds gs before hval (DataW.Whole.of_heap (w' := w.forCall tape i) (by rfl) hw) (hX _ _ _ (by rfl) hx) hsh).mono fun e W' ⟨v, he, hp⟩ => ?_
  subst he
  exact ChangeSpec.post_blind hp
set_option maxRecDepth 100000 in
theorem door_met (os : Os) (args : Array Value) : laidMetH Tryz.prog lst ((World.laidAll Tryz.prog os lst).forCall (fun _ _ => 0) ⟨#[], args, []⟩).memory := by
  rw [MakeChecks.laidMetH_plain _ _ _ (by kernel_rfl)]
  exact laidMet_laidAll args (by kernel_rfl) (by kernel_rfl)
section
variable {H : Type} {enc : TypeId × Value → H} {P : Program} {w : World} {base : Nat} {sp : Nat → Bool} {held : Bool}
/-- An array whose elements read as rows of known cells holds these cells. -/
theorem cells_of_rows {α : Type} {fuel : Nat} {t e : TypeId} {n c : Nat} {cs : List Value} {p : List MemPlace} (ht : P.underlying t = some (.array n e)) (hce : P.cellsOf e = c) (hct : P.cellsOf t = n * c) (rows : List α) (dat : α → DataW H) (cel : α → List Value)
    (hrow : ∀ (a : α) (f : Nat) (ds : List Value) (q : List MemPlace), DataW.trod enc P w base sp held f e ds = some (dat a, q) → ds = cel a)
    (h : DataW.trod enc P w base sp held fuel t cs = some (.agg (rows.map dat), p)) : cs = rows.flatMap cel := by
  cases fuel with
  | zero => simp [DataW.trod] at h
  | succ fuel =>
    simp only [DataW.trod, ht, hce, hct] at h
    split at h
    · rename_i hl
      obtain ⟨xs, hm, hx⟩ := Option.map_eq_some_iff.1 h
      have hxs : xs.map (·.1) = rows.map dat := by
        have := congrArg Prod.fst hx
        simpa using this
      have hxl : xs.length = n := by simpa using Lib.mapM_length hm
      have hrl : rows.length = n := by
        have := congrArg List.length hxs
        simp at this
        omega
      have hel : ∀ i (hi : i < rows.length), (cs.drop (i * c)).take c = cel rows[i] := by
        intro i hi
        obtain ⟨b, hb, hf⟩ := Lib.mapM_at hm i i (by simp [← hrl, hi])
        have h2 : (xs.map (·.1))[i]? = some b.1 := by simp [hb]
        rw [hxs, List.getElem?_map, List.getElem?_eq_getElem hi] at h2
        have h3 : dat rows[i] = b.1 := by simpa using h2
        refine hrow rows[i] fuel _ b.2 ?_
        rw [hf, h3]
      clear h hm hx hxs hxl
      subst hrl
      clear ht hct
      induction rows generalizing cs with
      | nil =>
        have : cs.length = 0 := by simpa using hl
        simpa using List.eq_nil_of_length_eq_zero this
      | cons a r ih =>
        have h0 := hel 0 (by simp)
        have h1 := ih (cs := cs.drop c) (fun i hi => by
          have := hel (i + 1) (by simp; omega)
          rw [Nat.succ_mul] at this
          rw [List.drop_drop, show c + i * c = i * c + c by omega]
          exact this) (by rw [List.length_drop, hl, List.length_cons, Nat.succ_mul]; omega)
        rw [List.flatMap_cons, ← h1]
        rw [Nat.zero_mul, List.drop_zero] at h0
        have h4 : cel a = cs.take c := h0.symm
        rw [h4, List.take_append_drop]
    · cases h
end
/-- The forms as the row lists them. -/
def formsD : List (List UInt8 × Int × Int) := formsL.map fun x => (x.1.data.toList, x.2.1, x.2.2)
def formD {H : Type} (x : List UInt8 × Int × Int) : DataW H := .agg [.lit (.string x.1), .lit (.int .i64 x.2.1), .lit (.int .i64 x.2.2)]
def formV (x : List UInt8 × Int × Int) : List Value := cF (⟨x.1.toArray⟩, x.2.1, x.2.2)
set_option maxRecDepth 100000 in
theorem form_of_trod {H : Type} {enc : TypeId × Value → H} {w : World} {base : Nat} {sp : Nat → Bool} {held : Bool} (x : List UInt8 × Int × Int) (f : Nat) (ds : List Value) (q : List MemPlace) (h : DataW.trod enc Tryz.prog w base sp held f 101 ds = some (formD x, q)) : ds = formV x := by
  obtain ⟨y0, y1, y2, n, hx, hl, h0, h1, h2⟩ := trod_struct3 Tryz.underlying101 h
  have hc : Tryz.prog.cellsOf 101 = 3 := by kernel_rfl
  have c9 : Tryz.prog.cellsOf 9 = 1 := by kernel_rfl
  have c3 : Tryz.prog.cellsOf 3 = 1 := by kernel_rfl
  rw [hc] at hl
  match ds, hl with
  | [a0, a1, a2], _ =>
    simp only [c9, c3, List.drop_zero, List.drop_succ_cons, List.take_succ_cons, List.take_zero] at h0 h1 h2
    obtain ⟨s, hs, rfl, _⟩ := DataW.trod_string Tryz.underlying9 h0
    obtain ⟨n1, hn1, rfl, _⟩ := DataW.trod_int Tryz.underlying3 h1
    obtain ⟨n2, hn2, rfl, _⟩ := DataW.trod_int Tryz.underlying3 h2
    simp only [List.cons.injEq, and_true] at hs hn1 hn2
    subst hs hn1 hn2
    unfold formD at hx
    simp only [Prod.mk.injEq, DataW.agg.injEq, List.cons.injEq, DataW.lit.injEq, Lit.string.injEq, Lit.int.injEq, true_and, and_true] at hx
    obtain ⟨⟨e1, e2, e3⟩, _⟩ := hx
    unfold formV cF
    rw [e1, e2, e3]
theorem at_var {W : World} {name : String} {g : Nat} {cs : Array Value} (hg : Tryz.prog.globalNamed name = some g) (h : W.var? Tryz.prog name = some cs) (ds : List Value) (hd : cs.toList = ds) (hne : ds ≠ []) : At W ⟨g, 0, none⟩ ds := by
  have hc : ∀ i, W.cell? ⟨g, i, none⟩ = ds[i]? := fun i => by
    rw [World.var?_cell hg h i, ← hd]
    simp
  obtain ⟨v, r, rfl⟩ : ∃ v r, ds = v :: r := by
    cases ds with
    | nil => exact absurd rfl hne
    | cons v r => exact ⟨v, r, rfl⟩
  refine ⟨block_lt_of_cell (hc 0), fun j u hj => ?_⟩
  rw [add_off, Nat.zero_add, hc, hj]
theorem forms_name : Tryz.prog.globalNamed "bulletin/command.forms" = some 0 := by kernel_rfl
theorem pow_name : Tryz.prog.globalNamed "internal/strconv.uint64pow10" = some 2 := by kernel_rfl
theorem laidForms_eq : (Rows.laid_bulletin_command_forms : DataW Unit) = .agg (formsD.map formD) := rfl
/-- What a world that meets the row's conditions gives the laws. -/
theorem laid_of {W : World} (h : laidMetH Tryz.prog lst W) (hsh : W.ShapedOpen Tryz.prog) : Laid W := by
  obtain ⟨m, hm⟩ := Tryz.laysM143.s1_3 W hsh
  rw [MakeChecks.laidMetH_plain _ _ _ (by kernel_rfl)] at h
  have h3 : laidMet Tryz.prog (("internal/strconv.uint64pow10", Lib.tabData .u64 Lib.pow10Tab) :: [("unicode/utf8.acceptRanges", Rows.laid_unicode_utf8_acceptRanges), ("bulletin/command.forms", Rows.laid_bulletin_command_forms), ("unicode/utf8.first", Rows.laid_unicode_utf8_first)]) W := h.tail.tail
  have h5 : laidMet Tryz.prog [("bulletin/command.forms", Rows.laid_bulletin_command_forms), ("unicode/utf8.first", Rows.laid_unicode_utf8_first)] W := h3.tail.tail
  obtain ⟨ps, ⟨g, t, cs, fuel, p, q, hg, ht, hvar, hd, _, _⟩, _⟩ := h5
  obtain rfl := Option.some.inj (forms_name.symm.trans hg)
  obtain rfl : 102 = t := Option.some.inj ((show (Tryz.prog.globals[0]?).map (·.type) = some 102 by kernel_rfl).symm.trans ht)
  have e1 := cells_of_rows Tryz.underlying102 (c := 3) (by kernel_rfl) (by kernel_rfl) formsD formD formV form_of_trod hd
  exact ⟨fun _ => ⟨_, rfl, at_var forms_name hvar _ e1 (by decide)⟩, ⟨m, hm⟩, Lib.tabIs_of_head (t := 204) (e := 51) (n := 20) pow_name (by kernel_rfl) (by kernel_rfl) (by kernel_rfl) (by kernel_rfl) (by kernel_rfl) h3⟩
/-! ### arguments -/
theorem cells22 : Tryz.prog.cellsOf 29 = 32 := by kernel_rfl
theorem cells5 : Tryz.prog.cellsOf 5 = 1 := by kernel_rfl
section
variable {H : Type} {enc : TypeId × Value → H} {w : World} {base : Nat} {spare : Nat → Bool} {held : Bool}
theorem byte_of_trod {fuel : Nat} {cs : List Value} {x : DataW H × List MemPlace} (h : DataW.trod enc Tryz.prog w base spare held fuel 5 cs = some x) : ∃ b : UInt8, cs = [cB b] := by
  obtain ⟨n, rfl, _, hw⟩ := DataW.trod_int Tryz.underlying5 h
  simp [Lit.wf, IntKind.min, IntKind.max, IntKind.signed, IntKind.bits] at hw
  refine ⟨UInt8.ofNat n.toNat, ?_⟩
  have e : ((UInt8.ofNat n.toNat).toNat : Int) = n := by
    rw [UInt8.toNat_ofNat']
    omega
  unfold cB
  rw [e]
theorem id_of_trod {t : TypeId} {fuel : Nat} {cs : List Value} {x : DataW H × List MemPlace} (ht : Tryz.prog.underlying t = some (.array 32 5)) (hc : Tryz.prog.cellsOf t = 32) (h : DataW.trod enc Tryz.prog w base spare held fuel t cs = some x) :
    ∃ y : Id, cs = cI y := by
  obtain ⟨xs, m, _, _, hl, hxs, hel⟩ := DataW.trod_array ht h
  rw [hc] at hl
  have hb : ∀ i, i < 32 → ∃ b : UInt8, (cs.drop i).take 1 = [cB b] := by
    intro i hi
    have h1 := hel i hi
    rw [cells5, Nat.mul_one, List.getElem?_eq_getElem (by omega)] at h1
    exact byte_of_trod h1
  obtain ⟨f, hf⟩ := choose_lt (α := UInt8) hb
  refine ⟨⟨(List.range 32).map f, by simp⟩, ?_⟩
  unfold cI
  refine List.ext_getElem (by simp [hl]) fun i h1 h2 => ?_
  have h3 := hf i (by omega)
  rw [List.drop_eq_getElem_cons h1, List.take_succ_cons] at h3
  simp only [List.cons.injEq] at h3
  simp [h3.1]
end
theorem id_val_of_trod {H : Type} {enc : TypeId × Value → H} {w : World} {t : TypeId} {v : Value} {d : DataW H} {p : List MemPlace} (ht : Tryz.prog.underlying t = some (.array 32 5)) (hc : Tryz.prog.cellsOf t = 32)
    (h : DataW.Trod enc Tryz.prog w 0 (fun _ => true) true t v d p) : ∃ y : Id, v = vI y := by
  obtain ⟨fuel, hf⟩ := h
  obtain ⟨y, hy⟩ := id_of_trod ht hc hf
  refine ⟨y, ?_⟩
  have hl : v.cells.toList.length = 32 := by rw [hy, cI_length]
  cases v <;> simp [Value.cells] at hl hy
  · simp [vI, ← hy]
end
section
open Go.ChangeShapes Go.WideShapes Go.ChangeAt Go.RowKit Go.Deep
theorem drop_dec {α : Type} (cs : List α) (k n : Nat) : cs.drop k = (cs.drop k).take n ++ cs.drop (k + n) := by
  rw [← List.drop_drop, List.take_append_drop]
theorem i64_of_wf {n : Int} (hw : (Lit.int .i64 n).wf = true) : i64 n := by
  simp [Lit.wf, IntKind.min, IntKind.max, IntKind.signed, IntKind.bits] at hw
  unfold i64
  omega
section
variable {H : Type} {enc : TypeId × Value → H} {w : World} {base : Nat} {spare : Nat → Bool} {held : Bool}
theorem rc_of_trod {fuel : Nat} {cs : List Value} {x : DataW H × List MemPlace} (h : DataW.trod enc Tryz.prog w base spare held fuel 35 cs = some x) : ∃ c : Cm, cs = cC c ∧ c.ints := by
  obtain ⟨xs, n, _, rfl, hl, hlen, hf⟩ := DataW.trod_struct Tryz.underlying35 h
  rw [show Tryz.prog.cellsOf 35 = 39 by kernel_rfl] at hl
  have c3 : Tryz.prog.cellsOf 3 = 1 := by kernel_rfl
  have c9 : Tryz.prog.cellsOf 9 = 1 := by kernel_rfl
  match xs, hlen with
  | [y0, y1, y2, y3, y4, y5, y6, y7], _ =>
    have f0 : DataW.trod enc Tryz.prog w base spare held n 3 ((cs.drop 0).take (Tryz.prog.cellsOf 3)) = some y0 := by simpa using hf 0 _ rfl
    have f1 : DataW.trod enc Tryz.prog w base spare held n 9 ((cs.drop 1).take (Tryz.prog.cellsOf 9)) = some y1 := by simpa using hf 1 _ rfl
    have f2 : DataW.trod enc Tryz.prog w base spare held n 29 ((cs.drop 2).take (Tryz.prog.cellsOf 29)) = some y2 := by simpa using hf 2 _ rfl
    have f3 : DataW.trod enc Tryz.prog w base spare held n 3 ((cs.drop 34).take (Tryz.prog.cellsOf 3)) = some y3 := by simpa using hf 3 _ rfl
    have f4 : DataW.trod enc Tryz.prog w base spare held n 3 ((cs.drop 35).take (Tryz.prog.cellsOf 3)) = some y4 := by simpa using hf 4 _ rfl
    have f5 : DataW.trod enc Tryz.prog w base spare held n 3 ((cs.drop 36).take (Tryz.prog.cellsOf 3)) = some y5 := by simpa using hf 5 _ rfl
    have f6 : DataW.trod enc Tryz.prog w base spare held n 3 ((cs.drop 37).take (Tryz.prog.cellsOf 3)) = some y6 := by simpa using hf 6 _ rfl
    have f7 : DataW.trod enc Tryz.prog w base spare held n 9 ((cs.drop 38).take (Tryz.prog.cellsOf 9)) = some y7 := by simpa using hf 7 _ rfl
    rw [c3] at f0 f3 f4 f5 f6
    rw [c9] at f1 f7
    rw [cells22] at f2
    obtain ⟨n0, h0, _⟩ := DataW.trod_int Tryz.underlying3 f0
    obtain ⟨s1, h1, _⟩ := DataW.trod_string Tryz.underlying9 f1
    obtain ⟨y, h2⟩ := id_of_trod Tryz.underlying29 cells22 f2
    obtain ⟨n3, h3, _, w3⟩ := DataW.trod_int Tryz.underlying3 f3
    obtain ⟨n4, h4, _, w4⟩ := DataW.trod_int Tryz.underlying3 f4
    obtain ⟨n5, h5, _, w5⟩ := DataW.trod_int Tryz.underlying3 f5
    obtain ⟨n6, h6, _, w6⟩ := DataW.trod_int Tryz.underlying3 f6
    obtain ⟨s7, h7, _⟩ := DataW.trod_string Tryz.underlying9 f7
    refine ⟨⟨n0, s1, y, n3, n4, n5, n6, s7⟩, ?_, ⟨i64_of_wf w3, i64_of_wf w4, i64_of_wf w5, i64_of_wf w6⟩⟩
    have e0 := drop_dec cs 0 1
    have e1 := drop_dec cs 1 1
    have e2 := drop_dec cs 2 32
    have e3 := drop_dec cs 34 1
    have e4 := drop_dec cs 35 1
    have e5 := drop_dec cs 36 1
    have e6 := drop_dec cs 37 1
    have e7 := drop_dec cs 38 1
    rw [List.drop_eq_nil_of_le (show cs.length ≤ 38 + 1 by omega), List.append_nil] at e7
    simp only [Nat.reduceAdd] at e0 e1 e2 e3 e4 e5 e6
    rw [h0, e1, h1, e2, h2, e3, h3, e4, h4, e5, h5, e6, h6, e7, h7, List.drop_zero] at e0
    exact e0
end
theorem rc_val_of_trod {H : Type} {enc : TypeId × Value → H} {w : World} {v : Value} {d : DataW H} {p : List MemPlace}
    (h : DataW.Trod enc Tryz.prog w 0 (fun _ => true) true 35 v d p) : ∃ c : Cm, v = vC c ∧ c.ints := by
  obtain ⟨fuel, hf⟩ := h
  obtain ⟨c, hc, hi⟩ := rc_of_trod hf
  refine ⟨c, ?_, hi⟩
  have hl : v.cells.toList.length = 39 := by rw [hc, cC_length]
  cases v <;> simp [Value.cells] at hl hc
  · simp [vC, ← hc]
end
end Go.Proofs.YtgojaelkdpabkaaGreatDoor
