/- DigestByMail: whatever the arguments, the law returns true and the arguments read as before; the card ties the listed variables to the program's text. -/
import Derived.Test.YtibelollgdnidaaGreatDoorRows
import Derived.Test.YtibelollgdnidaaGreatDoorMLw3
import Derived.Lay
import Derived.ProofKit
import Derived.OpenShut
import Derived.ShutString
import Derived.ChangeOld
import Derived.Deep.Slices
import Derived.Deep.Strs
import Derived.LaidMore
import Derived.Lib.LaidTab
import Derived.Stop.Joined
import Derived.Stop.LaidErr
import Derived.Test.YtibelollgdnidaaGreatDoorTie
import Derived.Test.YtibelollgdnidaaGreatDoorCards
import Derived.SevenTiedAt
namespace Go.Proofs.YtibelollgdnidaaGreatDoor
section
open Go.ChangeShapes Go.WideShapes Go.ChangeAt Go.RowKit Go.Deep
theorem ownD : ownKnob Tryz.prog.godebug = none := by kernel_rfl
theorem laidOutD : laidOutB Tryz.prog = true := by kernel_rfl
def lst : List (String × DataW Unit) := [("math/bits.deBruijn32tab", Rows.laid_math_bits_deBruijn32tab), ("math/bits.deBruijn64tab", Rows.laid_math_bits_deBruijn64tab), ("internal/strconv.uint64pow10", Rows.laid_internal_strconv_uint64pow10), ("unicode/utf8.acceptRanges", Rows.laid_unicode_utf8_acceptRanges), ("strconv.ErrRange", Rows.laid_strconv_ErrRange), ("strconv.ErrSyntax", Rows.laid_strconv_ErrSyntax), ("unicode/utf8.first", Rows.laid_unicode_utf8_first)]
theorem wrapLS {H : Type} {enc : TypeId × Value → H} {a : Assume} {C : Checked} {os : Os} {f : FuncId} {fn : Func} {s : ChangeSpec} {conds : List PathCond} {apart fresh handsOn again : Bool} {X : World → Array Value → Prop}
  (hX : ∀ (w w' : World) (args : Array Value), w.heap = w'.heap → X w args → X w' args)
  (own : ownKnob C.prog.godebug = none) (started : os.Started) (noInit : C.prog.inits.idxOf? f = none) (hfn : C.prog.funcs[f]? = some fn)
  (witness : ∃ (w : World) (tape : Tape) (i : Input), w.os = os ∧ (w.forCall tape i).Shaped C.prog ∧ i.vars = [] ∧ Input.okWide C.prog (w.forCall tape i) .any w.heap.size f i ∧
   ((s.pre enc C.prog fn conds apart (w.forCall tape i).memory i.args ∧ X (w.forCall tape i).memory i.args) ∧ sizedMet enc C.prog fn (OpenSpec.ofChange s) apart (w.forCall tape i).memory i.args) ∧ a.holds C.prog (lone (Frame.enter C.prog f i.args .normal) [] (w.forCall tape i)))
  (contract : ∀ (W : World) (base : Nat) (args : Array Value) (ds gs : List (DataW H)) (before : List MemPlace),
   (∀ (j : Nat) t v, fn.params[j]? = some t → args[j]? = some v → Value.okWide C.prog W .any base t v) →
   DataW.Whole enc C.prog fn.params.toList s.vars apart W args.toList ds gs before →
   X W args → W.ShapedOpen C.prog →
   Calls C.prog f args W fun e W' => ∃ v, e = .returned v ∧ s.post enc C.prog fn apart fresh handsOn again W args v W') :
  ReturnsInHanded a C os f .any (fun w args => (s.pre enc C.prog fn conds apart w args ∧ X w args) ∧ sizedMet enc C.prog fn (OpenSpec.ofChange s) apart w args) (s.post enc C.prog fn apart fresh handsOn again) := by
 refine returnsInHanded_of_calls own started noInit witness ?_
 intro w tape i _ hsh _ hok hpre _
 obtain ⟨_, _, _, fn', hfn', _, _, _, _, hval⟩ := hok
 obtain rfl : fn' = fn := Option.some.inj (hfn'.symm.trans hfn)
 obtain ⟨⟨⟨ds, gs, before, hw, _⟩, hx⟩, _⟩ := hpre
 refine (contract (w.forCall tape i) w.heap.size i.args ds gs before hval (DataW.Whole.of_heap (w' := w.forCall tape i) (by rfl) hw) (hX _ _ _ (by rfl) hx) hsh).mono fun e W' ⟨v, he, hp⟩ => ?_
 subst he
 exact ChangeSpec.post_blind hp
set_option maxRecDepth 100000 in
theorem door_met (os : Os) (args : Array Value) : laidMetH Tryz.prog lst ((World.laidAll Tryz.prog os lst).forCall (fun _ _ => 0) ⟨#[], args, []⟩).memory := by
 rw [MakeChecks.laidMetH_plain _ _ _ (by kernel_rfl)]
 exact laidMet_laidAll args (by kernel_rfl) (by kernel_rfl)
theorem pow_name : Tryz.prog.globalNamed "internal/strconv.uint64pow10" = some 1 := by kernel_rfl
theorem ldz_of {W : World} (h : laidMetH Tryz.prog lst W) (hsh : W.ShapedOpen Tryz.prog) : Ldz W W := by
 obtain ⟨m, hm⟩ := Tryz.laysM143.s1_3 W hsh
 rw [MakeChecks.laidMetH_plain _ _ _ (by kernel_rfl)] at h
 have h3 : laidMet Tryz.prog (("internal/strconv.uint64pow10", Lib.tabData .u64 Lib.pow10Tab) :: [("unicode/utf8.acceptRanges", Rows.laid_unicode_utf8_acceptRanges), ("strconv.ErrRange", Rows.laid_strconv_ErrRange), ("strconv.ErrSyntax", Rows.laid_strconv_ErrSyntax), ("unicode/utf8.first", Rows.laid_unicode_utf8_first)]) W := h.tail.tail
 exact ⟨⟨m, hm⟩, Lib.tabIs_of_head (t := 209) (e := 194) (n := 20) pow_name (by kernel_rfl) (by kernel_rfl) (by kernel_rfl) (by kernel_rfl) (by kernel_rfl) h3, Below.refl _ _⟩
theorem cells5 : Tryz.prog.cellsOf 5 = 1 := by kernel_rfl
section
variable {H : Type} {enc : TypeId × Value → H} {w : World} {base : Nat} {spare : Nat → Bool} {held : Bool}
theorem byte_of_trod {fuel : Nat} {cs : List Value} {x : DataW H × List MemPlace} (h : DataW.trod enc Tryz.prog w base spare held fuel 5 cs = some x) : ∃ b : UInt8, cs = [cB b] := by
 obtain ⟨n, rfl, _, hw⟩ := DataW.trod_int Tryz.underlying5 h
 simp [Lit.wf, IntKind.min, IntKind.max, IntKind.signed, IntKind.bits] at hw
 refine ⟨UInt8.ofNat n.toNat, ?_⟩
 have e : ((UInt8.ofNat n.toNat).toNat : Int) = n := by
  rw [UInt8.toNat_ofNat']
  omega
 unfold cB
 rw [e]
theorem drop_dec {α : Type} (cs : List α) (k n : Nat) : cs.drop k = (cs.drop k).take n ++ cs.drop (k + n) := by
 rw [← List.drop_drop, List.take_append_drop]
theorem lt_of_trod {fuel : Nat} {cs : List Value} {x : DataW H × List MemPlace} (h : DataW.trod enc Tryz.prog w base spare held fuel 32 cs = some x) : ∃ a : Lt, cs = cLt a := by
 obtain ⟨y0, y1, n, _, hl, h0, h1⟩ := trod_struct2 Tryz.underlying32 h
 rw [show Tryz.prog.cellsOf 32 = 2 by kernel_rfl] at hl
 obtain ⟨y, hy⟩ := byte_of_trod h0
 obtain ⟨s, hs, _⟩ := DataW.trod_string Tryz.underlying9 h1
 simp only [cells5, List.drop_zero] at hy
 simp only [show Tryz.prog.cellsOf 9 = 1 by kernel_rfl] at hs
 refine ⟨(y, s), ?_⟩
 have e := drop_dec cs 0 1
 have e2 := drop_dec cs 1 1
 rw [List.drop_eq_nil_of_le (show cs.length ≤ 1 + 1 by omega), List.append_nil] at e2
 rw [List.drop_zero, Nat.zero_add, hy, e2, hs] at e
 exact e
end
section
variable {H : Type} {enc : TypeId × Value → H} {w : World}
theorem sl_of_trod {α : Type} [Inhabited α] (ec : α → List Value) (s : Nat) (hs0 : 0 < s) (hs : ∀ x, (ec x).length = s) {t e : TypeId} {a0 : Option Addr} {n c : Nat} {d : DataW H} {p : List MemPlace} (ht : Tryz.prog.underlying t = some (.slice e)) (hc : Tryz.prog.cellsOf e = s)
  (he : ∀ {fuel : Nat} {cs : List Value} {x : DataW H × List MemPlace}, DataW.trod enc Tryz.prog w 0 (fun _ => true) true fuel e cs = some x → ∃ y : α, cs = ec y)
  (h : DataW.Trod enc Tryz.prog w 0 (fun _ => true) true t (.slice a0 n c) d p) : ∃ xs : List α, xs.length = n ∧ n ≤ c ∧ c ≤ maxLen ∧ Sl w ec a0 xs := by
 obtain ⟨fuel, hf⟩ := h
 rcases open_slice ht hf with ⟨hcs, _⟩ | ⟨a, len, cap, m, k, D, Pl, hcs, _, hl, hm, hmm, _, hx⟩
 ·simp [Value.cells] at hcs
  obtain ⟨rfl, rfl, rfl⟩ := hcs
  exact ⟨[], rfl, Nat.le_refl _, Nat.zero_le _, Sl.nil _ _ _⟩
 ·simp [Value.cells] at hcs
  obtain ⟨rfl, rfl, rfl⟩ := hcs
  simp only [if_true] at hmm
  subst hmm
  have hid : ∀ i, i < n → ∃ y : α, ∀ j u, (ec y)[j]? = some u → w.cell? (a.add (i * s + j)) = some u := by
   intro i hi
   obtain ⟨cs', h1, h2⟩ := hx i (by omega)
   rw [hc] at h1
   obtain ⟨y, rfl⟩ := he h2
   obtain ⟨_, _, h3⟩ := World.cells?_some h1
   refine ⟨y, fun j u hu => ?_⟩
   have hj : j < s := by have := (List.getElem?_eq_some_iff.1 hu).1; rwa [hs] at this
   have := h3 j hj
   rw [Go.Deep.add_add] at this
   rw [this, hu]
  obtain ⟨f, hf'⟩ := choose_lt hid
  refine ⟨(List.range n).map f, by simp, hl, hm, fun hne => ⟨a, rfl, ?_, ?_⟩⟩
  ·have hn : 0 < n := by
    rcases Nat.eq_zero_or_pos n with h0 | h0
    ·subst h0; exact absurd rfl hne
    ·exact h0
   have h1 := hf' 0 hn 0 ((ec (f 0))[0]'(by rw [hs]; omega)) (List.getElem?_eq_getElem _)
   have := block_lt_of_cell h1
   rwa [block_of_add] at this
  ·intro j u hu
   have hlen : ((List.range n).map f).length = n := by simp
   have hj : j < n * s := by
    have := (List.getElem?_eq_some_iff.1 hu).1
    rwa [flatMap_length ec s hs, hlen] at this
   have hk : j / s < n := Nat.div_lt_of_lt_mul (by rwa [Nat.mul_comm] at hj)
   have e1 : j / s * s + j % s = j := Nat.div_add_mod' j s
   have e2 := flatMap_getElem ec s hs ((List.range n).map f) (j / s) (by rw [hlen]; exact hk) (j % s) (Nat.mod_lt _ hs0)
   rw [e1, hu] at e2
   have e3 : ((List.range n).map f)[j / s]'(by rw [hlen]; exact hk) = f (j / s) := by simp
   rw [e3] at e2
   have := hf' (j / s) hk (j % s) u e2.symm
   rwa [e1] at this
end
end
open Go.ChangeShapes Go.WideShapes Go.ChangeAt Go.RowKit Go.Deep
set_option maxRecDepth 100000 in
theorem digestByMailLifted (os : Go.Os) (started : os.Started) (H : Type) (enc : TypeId × Value → H) :
  ReturnsInHanded {} Tryz.checked os 3 .any (fun w args => (Rows.digestByMailSpec.pre enc Tryz.prog Tryz.f3 [] false w args ∧ laidMetH Tryz.prog lst w) ∧ sizedMet enc Tryz.prog Tryz.f3 (OpenSpec.ofChange Rows.digestByMailSpec) false w args)
   (Rows.digestByMailSpec.post enc Tryz.prog Tryz.f3 false true false false) := by
 refine wrapLS (C := Tryz.checked) (X := fun w _ => laidMetH Tryz.prog lst w) (fun _ _ _ hh h => h.of_heap hh) ownD started (by kernel_rfl) Tryz.func3
  (ChangeSpec.witness_shaped (enc := enc) (C := Tryz.checked) (os := os) (X := fun w _ => laidMetH Tryz.prog lst w) false (World.laidAll Tryz.prog os lst) #[.slice none 0 0, .slice none 0 0] 8 (World.laidAll_os _ _ _) (World.shaped_of_ZipB (by kernel_rfl) (by kernel_rfl)) (by kernel_rfl) (by kernel_rfl) (by kernel_rfl) (door_met os _)) ?_
 intro W base args ds gs before hval0 hW hL hsh
 have hval : ∀ (j : Nat) t v, Tryz.f3.params[j]? = some t → args[j]? = some v → Value.okWide Tryz.prog W .any base t v := hval0
 have hW' := hW
 obtain ⟨p, q, hA0, hV, rfl, hfz, hnd⟩ := hW
 have hA : DataW.TrodAll enc Tryz.prog W 0 (fun _ => true) true Tryz.f3.params.toList args.toList ds p := hA0
 rw [Tryz.params3] at hA hval
 obtain ⟨v0, vs0, d0, ds0, p0, q0, hargs, rfl, rfl, h0, r0⟩ := trodAll_cons hA
 obtain ⟨v1, vs1, d1, ds1, p1, q1, rfl, rfl, rfl, h1, r1⟩ := trodAll_cons r0
 obtain ⟨rfl, rfl, rfl⟩ := trodAll_nil r1
 obtain rfl : args = #[v0, v1] := by cases args; simp_all
 obtain ⟨rfl, rfl⟩ := trodVars_none hV
 have hm := ldz_of hL hsh
 obtain ⟨a0, len0, cap0, rfl⟩ := okWide_slice Tryz.underlying22 (hval 0 22 v0 rfl rfl)
 have k0 := h0
 have lt0 : ∀ x ∈ p0, x.block < W.heap.size := by obtain ⟨m, hm⟩ := k0; exact DataW.trod_lt m _ _ _ hm
 obtain ⟨xs0, rfl, hc0, _, hs0⟩ := sl_of_trod cLt 2 (by decide) (fun _ => rfl) Tryz.underlying22 (by kernel_rfl) (fun h => lt_of_trod h) h0
 obtain ⟨a1, len1, cap1, rfl⟩ := okWide_slice Tryz.underlying23 (hval 1 23 v1 rfl rfl)
 have k1 := h1
 have lt1 : ∀ x ∈ p1, x.block < W.heap.size := by obtain ⟨m, hm⟩ := k1; exact DataW.trod_lt m _ _ _ hm
 obtain ⟨xs1, rfl, hc1, _, hs1⟩ := sl_of_trod c1 1 (by decide) (fun _ => rfl) Tryz.underlying23 (by kernel_rfl) (fun h => byte_of_trod h) h1
 clear hA0 hval0
 refine (mail_law a0 cap0 xs0 a1 cap1 xs1 W hs0 hc0 hs1 hc1 hm ).mono fun e W' ⟨he, bel⟩ => ?_
 subst he
 exact ⟨_, rfl, _, _, _, [], _, [], hW', trodAll_mk1 (shut_bool Tryz.underlying4 _), (trodAll_cons_mk (Below.trod laidOutD (by kernel_rfl) (of_decide_eq_true (by kernel_rfl)) k0 bel lt0) (trodAll_cons_mk (Below.trod laidOutD (by kernel_rfl) (of_decide_eq_true (by kernel_rfl)) k1 bel lt1) trodAll_mk0)), rfl, bel.frame _, fun h => by cases h⟩
theorem digestByMailRowHolds : Rows.DigestByMailSaid :=
 OpenClaim.holds_of_wide 3 Tryz.f3 rfl rfl rfl rfl rfl rfl rfl ⟨rfl, rfl, rfl, rfl, rfl⟩ rfl rfl rfl rfl rfl (by kernel_rfl) Tryz.func3 (by kernel_rfl)
  (of_decide_eq_true (by kernel_rfl)) (by unfold Func.isWrapper; first | (rw [if_pos (by decide +kernel)]; kernel_rfl) | (rw [if_neg (by decide +kernel)]; exact ⟨rfl, rfl⟩))
  (fun os started H enc _ => digestByMailLifted os started H enc)
theorem digestByMailCardProved : Rows.DigestByMailCardSaid :=
 Claim7.holds_tied_plain_at .later [] [.data, .data, .data, .data, .sentinel, .sentinel, .pinned] true Rows.digestByMailCard.stood.harness true
  digestByMailRowHolds (fun _ h => by cases h) (by kernel_rfl) (fun _ h => by cases h) digestByMail_row_tie rfl ⟨rfl, rfl⟩ (by kernel_rfl) rfl
  (fun f fn hf hfn => by
   obtain rfl : f = 3 := Option.some.inj ((show Tryz.prog.funcNamed "bulletin/bulletintop.DigestByMail" = some 3 by kernel_rfl).symm.trans hf) |>.symm
   obtain rfl : fn = Tryz.f3 := (Option.some.inj (Tryz.func3.symm.trans hfn)).symm
   exact ⟨by kernel_rfl, fun j t ht => by
    rw [Tryz.params3] at ht
    have hm : t ∈ [22, 23] := by simpa using Array.mem_of_getElem? ht
    have hall : ([22, 23].all fun u => !Tryz.prog.wantsStandIn u) = true := by kernel_rfl
    exact (show Tryz.prog.wantsStandIn t = false by simpa using List.all_eq_true.1 hall t hm)⟩)
  (by kernel_rfl)
end Go.Proofs.YtibelollgdnidaaGreatDoor
