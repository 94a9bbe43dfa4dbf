/- From a world that meets a row's conditions to what the laws ask: the world's shape, the listed variables; how arguments read. -/
import Derived.Test.YtecalodcbkljoaaGreatDoorRows
import Derived.Test.YtecalodcbkljoaaGreatDoorMLai
import Derived.Lay
import Derived.ProofKit
import Derived.OpenShut
import Derived.ShutString
import Derived.ChangeOld
import Derived.Deep.Slices
import Derived.Deep.Strs
import Derived.LaidMore
import Derived.Lib.LaidTab
import Derived.Stop.Joined
import Derived.Stop.LaidErr
import Derived.Shelf.Vars
namespace Go.Proofs.YtecalodcbkljoaaGreatDoor
open Go.ChangeShapes Go.WideShapes Go.ChangeAt Go.RowKit Go.Deep
theorem ownD : ownKnob Tryz.prog.godebug = none := by kernel_rfl
theorem laidOutD : laidOutB Tryz.prog = true := by kernel_rfl
/-- What every row lists. -/
def lst : List (String × DataW Unit) := [("math/bits.deBruijn32tab", Rows.laid_math_bits_deBruijn32tab), ("math/bits.deBruijn64tab", Rows.laid_math_bits_deBruijn64tab), ("internal/strconv.uint64pow10", Rows.laid_internal_strconv_uint64pow10), ("unicode/utf8.acceptRanges", Rows.laid_unicode_utf8_acceptRanges), ("bulletin/sha256.constants", Rows.laid_bulletin_sha256_constants), ("unicode/utf8.first", Rows.laid_unicode_utf8_first)]
/-- A contract that asks for the world's shape and for a condition on memory gives the lifted statement. -/
theorem wrapLS {H : Type} {enc : TypeId × Value → H} {a : Assume} {C : Checked} {os : Os} {f : FuncId} {fn : Func} {s : ChangeSpec} {conds : List PathCond} {apart fresh handsOn again : Bool} {X : World → Array Value → Prop}
    (hX : ∀ (w w' : World) (args : Array Value), w.heap = w'.heap → X w args → X w' args)
    (own : ownKnob C.prog.godebug = none) (started : os.Started) (noInit : C.prog.inits.idxOf? f = none) (hfn : C.prog.funcs[f]? = some fn)
    (witness : ∃ (w : World) (tape : Tape) (i : Input), w.os = os ∧ (w.forCall tape i).Shaped C.prog ∧ i.vars = [] ∧ Input.okWide C.prog (w.forCall tape i) .any w.heap.size f i ∧
      ((s.pre enc C.prog fn conds apart (w.forCall tape i).memory i.args ∧ X (w.forCall tape i).memory i.args) ∧ sizedMet enc C.prog fn (OpenSpec.ofChange s) apart (w.forCall tape i).memory i.args) ∧ a.holds C.prog (lone (Frame.enter C.prog f i.args .normal) [] (w.forCall tape i)))
    (contract : ∀ (W : World) (base : Nat) (args : Array Value) (ds gs : List (DataW H)) (before : List MemPlace),
      (∀ (j : Nat) t v, fn.params[j]? = some t → args[j]? = some v → Value.okWide C.prog W .any base t v) →
      DataW.Whole enc C.prog fn.params.toList s.vars apart W args.toList ds gs before →
      X W args → W.ShapedOpen C.prog →
      Calls C.prog f args W fun e W' => ∃ v, e = .returned v ∧ s.post enc C.prog fn apart fresh handsOn again W args v W') :
    ReturnsInHanded a C os f .any (fun w args => (s.pre enc C.prog fn conds apart w args ∧ X w args) ∧ sizedMet enc C.prog fn (OpenSpec.ofChange s) apart w args) (s.post enc C.prog fn apart fresh handsOn again) := by
  refine returnsInHanded_of_calls own started noInit witness ?_
  intro w tape i _ hsh _ hok hpre _
  obtain ⟨_, _, _, fn', hfn', _, _, _, _, hval⟩ := hok
  obtain rfl : fn' = fn := Option.some.inj (hfn'.symm.trans hfn)
  obtain ⟨⟨⟨ds, gs, before, hw, _⟩, hx⟩, _⟩ := hpre
  refine (contract (w.forCall tape i) w.heap.size i.args ds gs before hval (DataW.Whole.of_heap (w' := w.forCall tape i) (by rfl) hw) (hX _ _ _ (by rfl) hx) hsh).mono fun e W' ⟨v, he, hp⟩ => ?_
  subst he
  exact ChangeSpec.post_blind hp
set_option maxRecDepth 100000 in
theorem door_met (os : Os) (args : Array Value) : laidMetH Tryz.prog lst ((World.laidAll Tryz.prog os lst).forCall (fun _ _ => 0) ⟨#[], args, []⟩).memory := by
  rw [MakeChecks.laidMetH_plain _ _ _ (by kernel_rfl)]
  exact laidMet_laidAll args (by kernel_rfl) (by kernel_rfl)
section
variable {H : Type} {enc : TypeId × Value → H} {P : Program} {w : World} {base : Nat} {sp : Nat → Bool} {held : Bool}
/-- An array whose elements read as rows of known cells holds these cells. -/
theorem cells_of_rows {α : Type} {fuel : Nat} {t e : TypeId} {n c : Nat} {cs : List Value} {p : List MemPlace} (ht : P.underlying t = some (.array n e)) (hce : P.cellsOf e = c) (hct : P.cellsOf t = n * c) (rows : List α) (dat : α → DataW H) (cel : α → List Value)
    (hrow : ∀ (a : α) (f : Nat) (ds : List Value) (q : List MemPlace), DataW.trod enc P w base sp held f e ds = some (dat a, q) → ds = cel a)
    (h : DataW.trod enc P w base sp held fuel t cs = some (.agg (rows.map dat), p)) : cs = rows.flatMap cel := by
  cases fuel with
  | zero => simp [DataW.trod] at h
  | succ fuel =>
    simp only [DataW.trod, ht, hce, hct] at h
    split at h
    · rename_i hl
      obtain ⟨xs, hm, hx⟩ := Option.map_eq_some_iff.1 h
      have hxs : xs.map (·.1) = rows.map dat := by
        have := congrArg Prod.fst hx
        simpa using this
      have hxl : xs.length = n := by simpa using Lib.mapM_length hm
      have hrl : rows.length = n := by
        have := congrArg List.length hxs
        simp at this
        omega
      have hel : ∀ i (hi : i < rows.length), (cs.drop (i * c)).take c = cel rows[i] := by
        intro i hi
        obtain ⟨b, hb, hf⟩ := Lib.mapM_at hm i i (by simp [← hrl, hi])
        have h2 : (xs.map (·.1))[i]? = some b.1 := by simp [hb]
        rw [hxs, List.getElem?_map, List.getElem?_eq_getElem hi] at h2
        have h3 : dat rows[i] = b.1 := by simpa using h2
        refine hrow rows[i] fuel _ b.2 ?_
        rw [hf, h3]
      clear h hm hx hxs hxl
      subst hrl
      clear ht hct
      induction rows generalizing cs with
      | nil =>
        have : cs.length = 0 := by simpa using hl
        simpa using List.eq_nil_of_length_eq_zero this
      | cons a r ih =>
        have h0 := hel 0 (by simp)
        have h1 := ih (cs := cs.drop c) (fun i hi => by
          have := hel (i + 1) (by simp; omega)
          rw [Nat.succ_mul] at this
          rw [List.drop_drop, show c + i * c = i * c + c by omega]
          exact this) (by rw [List.length_drop, hl, List.length_cons, Nat.succ_mul]; omega)
        rw [List.flatMap_cons, ← h1]
        rw [Nat.zero_mul, List.drop_zero] at h0
        have h4 : cel a = cs.take c := h0.symm
        rw [h4, List.take_append_drop]
    · cases h
end
def kI (t : Nat) : Int := iW (kW t)
theorem word_of_trod {H : Type} {enc : TypeId × Value → H} {w : World} {base : Nat} {sp : Nat → Bool} {held : Bool} (x : Int) (f : Nat) (ds : List Value) (q : List MemPlace) (h : DataW.trod enc Tryz.prog w base sp held f 114 ds = some (.lit (.int .u32 x), q)) : ds = [.int .u32 x] := by
  obtain ⟨n, rfl, hx, hw⟩ := DataW.trod_int Tryz.underlying114 h
  simp only [Prod.mk.injEq, DataW.lit.injEq, Lit.int.injEq, true_and] at hx
  rw [hx.1]
theorem at_var {W : World} {name : String} {g : Nat} {cs : Array Value} (hg : Tryz.prog.globalNamed name = some g) (h : W.var? Tryz.prog name = some cs) (ds : List Value) (hd : cs.toList = ds) (hne : ds ≠ []) : At W ⟨g, 0, none⟩ ds := by
  have hc : ∀ i, W.cell? ⟨g, i, none⟩ = ds[i]? := fun i => by
    rw [World.var?_cell hg h i, ← hd]
    simp
  obtain ⟨v, r, rfl⟩ : ∃ v r, ds = v :: r := by
    cases ds with
    | nil => exact absurd rfl hne
    | cons v r => exact ⟨v, r, rfl⟩
  refine ⟨block_lt_of_cell (hc 0), fun j u hj => ?_⟩
  rw [add_off, Nat.zero_add, hc, hj]
theorem con_name : Tryz.prog.globalNamed "bulletin/sha256.constants" = some 1 := by kernel_rfl
theorem pow_name : Tryz.prog.globalNamed "internal/strconv.uint64pow10" = some 2 := by kernel_rfl
theorem max_name : Tryz.prog.globalNamed "internal/bytealg.MaxLen" = some 0 := by kernel_rfl
def conL : List Int := (List.range 64).map kI
theorem con_at : ∀ t, t < 64 → (conL.flatMap fun x => [Value.int .u32 x])[t]? = some (vW (kW t)) := by
  intro t ht
  have e : (conL.flatMap fun x => [Value.int .u32 x]) = (List.range 64).map fun t => vW (kW t) := by
    unfold conL kI vW
    rw [List.flatMap_map, List.map_eq_flatMap]
  rw [e, List.getElem?_map, List.getElem?_range ht]
  rfl
theorem laidCon_eq : (Rows.laid_bulletin_sha256_constants : DataW Unit) = .agg (conL.map fun x => .lit (.int .u32 x)) := by kernel_rfl
/-- What a world that meets the row's conditions gives the laws. -/
theorem laid_of {W : World} (h : laidMetH Tryz.prog lst W) (hsh : W.ShapedOpen Tryz.prog) : Laid W := by
  obtain ⟨m, hm⟩ := cell_of_shapedOpen_int (P := Tryz.prog) (g := 0) (zero := #[.int .i64 0]) (t := 3) hsh (of_decide_eq_true (by kernel_rfl)) (by kernel_rfl) rfl (by kernel_rfl) (by kernel_rfl) Tryz.underlying3
  rw [MakeChecks.laidMetH_plain _ _ _ (by kernel_rfl)] at h
  have h3 : laidMet Tryz.prog (("internal/strconv.uint64pow10", Lib.tabData .u64 Lib.pow10Tab) :: [("unicode/utf8.acceptRanges", Rows.laid_unicode_utf8_acceptRanges), ("bulletin/sha256.constants", Rows.laid_bulletin_sha256_constants), ("unicode/utf8.first", Rows.laid_unicode_utf8_first)]) W := h.tail.tail
  have h5 : laidMet Tryz.prog [("bulletin/sha256.constants", Rows.laid_bulletin_sha256_constants), ("unicode/utf8.first", Rows.laid_unicode_utf8_first)] W := h3.tail.tail
  obtain ⟨ps, ⟨g, t, cs, fuel, p, q, hg, ht, hvar, hd, _, _⟩, _⟩ := h5
  obtain rfl := Option.some.inj (con_name.symm.trans hg)
  obtain rfl : 116 = t := Option.some.inj ((show (Tryz.prog.globals[1]?).map (·.type) = some 116 by kernel_rfl).symm.trans ht)
  rw [laidCon_eq] at hd
  have e1 := cells_of_rows Tryz.underlying116 (c := 1) (by kernel_rfl) (by kernel_rfl) conL (fun x => .lit (.int .u32 x)) (fun x => [.int .u32 x]) word_of_trod hd
  have hat := at_var con_name hvar _ e1 (by decide)
  refine ⟨⟨hat.1, fun t ht => ?_⟩, ?_, Lib.tabIs_of_head (t := 172) (e := 122) (n := 20) pow_name (by kernel_rfl) (by kernel_rfl) (by kernel_rfl) (by kernel_rfl) (by kernel_rfl) h3⟩
  · have h1 := hat.2 t _ (con_at t ht)
    rwa [add_off, Nat.zero_add] at h1
  · exact ⟨block_lt_of_cell hm, m, hm⟩
/-! ### arguments -/
theorem cells22 : Tryz.prog.cellsOf 37 = 32 := by kernel_rfl
theorem cells5 : Tryz.prog.cellsOf 5 = 1 := by kernel_rfl
section
variable {H : Type} {enc : TypeId × Value → H} {w : World} {base : Nat} {spare : Nat → Bool} {held : Bool}
theorem byte_of_trod {fuel : Nat} {cs : List Value} {x : DataW H × List MemPlace} (h : DataW.trod enc Tryz.prog w base spare held fuel 5 cs = some x) : ∃ b : UInt8, cs = [cB b] := by
  obtain ⟨n, rfl, _, hw⟩ := DataW.trod_int Tryz.underlying5 h
  simp [Lit.wf, IntKind.min, IntKind.max, IntKind.signed, IntKind.bits] at hw
  refine ⟨UInt8.ofNat n.toNat, ?_⟩
  have e : ((UInt8.ofNat n.toNat).toNat : Int) = n := by
    rw [UInt8.toNat_ofNat']
    omega
  unfold cB
  rw [e]
theorem id_of_trod {t : TypeId} {fuel : Nat} {cs : List Value} {x : DataW H × List MemPlace} (ht : Tryz.prog.underlying t = some (.array 32 5)) (hc : Tryz.prog.cellsOf t = 32) (h : DataW.trod enc Tryz.prog w base spare held fuel t cs = some x) :
    ∃ y : Id, cs = cI y := by
  obtain ⟨xs, m, _, _, hl, hxs, hel⟩ := DataW.trod_array ht h
  rw [hc] at hl
  have hb : ∀ i, i < 32 → ∃ b : UInt8, (cs.drop i).take 1 = [cB b] := by
    intro i hi
    have h1 := hel i hi
    rw [cells5, Nat.mul_one, List.getElem?_eq_getElem (by omega)] at h1
    exact byte_of_trod h1
  obtain ⟨f, hf⟩ := choose_lt (α := UInt8) hb
  refine ⟨⟨(List.range 32).map f, by simp⟩, ?_⟩
  unfold cI
  refine List.ext_getElem (by simp [hl]) fun i h1 h2 => ?_
  have h3 := hf i (by omega)
  rw [List.drop_eq_getElem_cons h1, List.take_succ_cons] at h3
  simp only [List.cons.injEq] at h3
  simp [h3.1]
end
theorem id_val_of_trod {H : Type} {enc : TypeId × Value → H} {w : World} {t : TypeId} {v : Value} {d : DataW H} {p : List MemPlace} (ht : Tryz.prog.underlying t = some (.array 32 5)) (hc : Tryz.prog.cellsOf t = 32)
    (h : DataW.Trod enc Tryz.prog w 0 (fun _ => true) true t v d p) : ∃ y : Id, v = vI y := by
  obtain ⟨fuel, hf⟩ := h
  obtain ⟨y, hy⟩ := id_of_trod ht hc hf
  refine ⟨y, ?_⟩
  have hl : v.cells.toList.length = 32 := by rw [hy, cI_length]
  cases v <;> simp [Value.cells] at hl hy
  · simp [vI, ← hy]
theorem i64_of_wf {n : Int} (hw : (Lit.int .i64 n).wf = true) : -9223372036854775808 ≤ n ∧ n ≤ 9223372036854775807 := by
  simp [Lit.wf, IntKind.min, IntKind.max, IntKind.signed, IntKind.bits] at hw
  omega
theorem u16_of_wf {n : Int} (hw : (Lit.int .u16 n).wf = true) : 0 ≤ n ∧ n < 65536 := by
  simp [Lit.wf, IntKind.min, IntKind.max, IntKind.signed, IntKind.bits] at hw
  omega
theorem byte_of_wf {n : Int} (hw : (Lit.int .u8 n).wf = true) : ∃ c : UInt8, n = (c.toNat : Int) := by
  simp [Lit.wf, IntKind.min, IntKind.max, IntKind.signed, IntKind.bits] at hw
  refine ⟨UInt8.ofNat n.toNat, ?_⟩
  rw [UInt8.toNat_ofNat']
  omega
section
variable {H : Type} {enc : TypeId × Value → H} {w : World}
theorem sl_of_trod {α : Type} [Inhabited α] (ec : α → List Value) (s : Nat) (hs0 : 0 < s) (hs : ∀ x, (ec x).length = s) {t e : TypeId} {a0 : Option Addr} {n c : Nat} {d : DataW H} {p : List MemPlace} (ht : Tryz.prog.underlying t = some (.slice e)) (hc : Tryz.prog.cellsOf e = s)
    (he : ∀ {fuel : Nat} {cs : List Value} {x : DataW H × List MemPlace}, DataW.trod enc Tryz.prog w 0 (fun _ => true) true fuel e cs = some x → ∃ y : α, cs = ec y)
    (h : DataW.Trod enc Tryz.prog w 0 (fun _ => true) true t (.slice a0 n c) d p) : ∃ xs : List α, xs.length = n ∧ n ≤ c ∧ c ≤ maxLen ∧ Sl w ec a0 xs := by
  obtain ⟨fuel, hf⟩ := h
  rcases open_slice ht hf with ⟨hcs, _⟩ | ⟨a, len, cap, m, k, D, Pl, hcs, _, hl, hm, hmm, _, hx⟩
  · simp [Value.cells] at hcs
    obtain ⟨rfl, rfl, rfl⟩ := hcs
    exact ⟨[], rfl, Nat.le_refl _, Nat.zero_le _, Sl.nil _ _ _⟩
  · simp [Value.cells] at hcs
    obtain ⟨rfl, rfl, rfl⟩ := hcs
    simp only [if_true] at hmm
    subst hmm
    have hid : ∀ i, i < n → ∃ y : α, ∀ j u, (ec y)[j]? = some u → w.cell? (a.add (i * s + j)) = some u := by
      intro i hi
      obtain ⟨cs', h1, h2⟩ := hx i (by omega)
      rw [hc] at h1
      obtain ⟨y, rfl⟩ := he h2
      obtain ⟨_, _, h3⟩ := World.cells?_some h1
      refine ⟨y, fun j u hu => ?_⟩
      have hj : j < s := by have := (List.getElem?_eq_some_iff.1 hu).1; rwa [hs] at this
      have := h3 j hj
      rw [Go.Deep.add_add] at this
      rw [this, hu]
    obtain ⟨f, hf'⟩ := choose_lt hid
    refine ⟨(List.range n).map f, by simp, hl, hm, fun hne => ⟨a, rfl, ?_, ?_⟩⟩
    · have hn : 0 < n := by
        rcases Nat.eq_zero_or_pos n with h0 | h0
        · subst h0; exact absurd rfl hne
        · exact h0
      have h1 := hf' 0 hn 0 ((ec (f 0))[0]'(by rw [hs]; omega)) (List.getElem?_eq_getElem _)
      have := block_lt_of_cell h1
      rwa [block_of_add] at this
    · intro j u hu
      have hlen : ((List.range n).map f).length = n := by simp
      have hj : j < n * s := by
        have := (List.getElem?_eq_some_iff.1 hu).1
        rwa [flatMap_length ec s hs, hlen] at this
      have hk : j / s < n := Nat.div_lt_of_lt_mul (by rwa [Nat.mul_comm] at hj)
      have e1 : j / s * s + j % s = j := Nat.div_add_mod' j s
      have e2 := flatMap_getElem ec s hs ((List.range n).map f) (j / s) (by rw [hlen]; exact hk) (j % s) (Nat.mod_lt _ hs0)
      rw [e1, hu] at e2
      have e3 : ((List.range n).map f)[j / s]'(by rw [hlen]; exact hk) = f (j / s) := by simp
      rw [e3] at e2
      have := hf' (j / s) hk (j % s) u e2.symm
      rwa [e1] at this
end
section
variable {H : Type} {enc : TypeId × Value → H} {w : World} {base : Nat} {spare : Nat → Bool} {held : Bool}
theorem it_of_trod {fuel : Nat} {cs : List Value} {x : DataW H × List MemPlace} (h : DataW.trod enc Tryz.prog w base spare held fuel 64 cs = some x) : ∃ c : It, cs = cX c := by
  obtain ⟨xs, n, _, rfl, hl, hlen, hf⟩ := DataW.trod_struct Tryz.underlying64 h
  rw [show Tryz.prog.cellsOf 64 = 33 by kernel_rfl] at hl
  have c9 : Tryz.prog.cellsOf 9 = 1 := by kernel_rfl
  match xs, hlen with
  | [y0, y1], _ =>
    have f0 : DataW.trod enc Tryz.prog w base spare held n 37 ((cs.drop 0).take (Tryz.prog.cellsOf 37)) = some y0 := by simpa using hf 0 _ rfl
    have f1 : DataW.trod enc Tryz.prog w base spare held n 9 ((cs.drop 32).take (Tryz.prog.cellsOf 9)) = some y1 := by simpa using hf 1 _ rfl
    rw [cells22, List.drop_zero] at f0
    rw [c9] at f1
    obtain ⟨y, h0⟩ := id_of_trod Tryz.underlying37 cells22 f0
    obtain ⟨s1, h1, _⟩ := DataW.trod_string Tryz.underlying9 f1
    refine ⟨⟨y, s1⟩, ?_⟩
    have e : cs = cs.take 32 ++ (cs.drop 32).take 1 := by
      rw [List.take_of_length_le (l := cs.drop 32) (by simp [hl]), List.take_append_drop]
    rw [e, h0, h1]
    rfl
end
instance : Inhabited It := ⟨zX⟩
theorem it_val_of_trod {H : Type} {enc : TypeId × Value → H} {w : World} {v : Value} {d : DataW H} {p : List MemPlace} (h : DataW.Trod enc Tryz.prog w 0 (fun _ => true) true 64 v d p) : ∃ c : It, v = vX c := by
  obtain ⟨fuel, hf⟩ := h
  obtain ⟨c, hc⟩ := it_of_trod hf
  refine ⟨c, ?_⟩
  have hl : v.cells.toList.length = 33 := by rw [hc, cX_length]
  cases v <;> simp [Value.cells] at hl hc
  · simp [vX, ← hc]
theorem its_of_trod {H : Type} {enc : TypeId × Value → H} {w : World} {a0 : Option Addr} {n c : Nat} {d : DataW H} {p : List MemPlace} (h : DataW.Trod enc Tryz.prog w 0 (fun _ => true) true 22 (.slice a0 n c) d p) :
    ∃ xs : List It, xs.length = n ∧ n ≤ c ∧ c ≤ maxLen ∧ Sl w cX a0 xs :=
  sl_of_trod cX 33 (by decide) cX_length Tryz.underlying22 (by kernel_rfl) (fun h => it_of_trod h) h
end Go.Proofs.YtecalodcbkljoaaGreatDoor
