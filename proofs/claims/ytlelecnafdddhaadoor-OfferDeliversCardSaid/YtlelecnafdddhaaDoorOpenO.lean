/- How bytes, half words, operations and lists of operations read that come in. -/
import Derived.Test.YtlelecnafdddhaaDoorDoorB
namespace Go.Proofs.YtlelecnafdddhaaDoor
open Go.ChangeShapes Go.WideShapes Go.ChangeAt Go.RowKit Go.Deep
theorem byte_of_wf {n : Int} (hw : (Lit.int .u8 n).wf = true) : ∃ c : UInt8, n = (c.toNat : Int) := by
  simp [Lit.wf, IntKind.min, IntKind.max, IntKind.signed, IntKind.bits] at hw
  refine ⟨UInt8.ofNat n.toNat, ?_⟩
  rw [UInt8.toNat_ofNat']
  omega
theorem half_of_wf {n : Int} (hw : (Lit.int .u16 n).wf = true) : ∃ c : UInt16, n = (c.toNat : Int) := by
  simp [Lit.wf, IntKind.min, IntKind.max, IntKind.signed, IntKind.bits] at hw
  refine ⟨UInt16.ofNat n.toNat, ?_⟩
  rw [UInt16.toNat_ofNat']
  omega
theorem drop_dec {α : Type} (cs : List α) (k n : Nat) : cs.drop k = (cs.drop k).take n ++ cs.drop (k + n) := by
  rw [← List.drop_drop, List.take_append_drop]
section
variable {H : Type} {enc : TypeId × Value → H} {w : World} {base : Nat} {spare : Nat → Bool} {held : Bool}
theorem art_of_trod {fuel : Nat} {cs : List Value} {x : DataW H × List MemPlace} (h : DataW.trod enc Tryd.prog w base spare held fuel 28 cs = some x) : ∃ a : Art, cs = cA a := by
  obtain ⟨y0, y1, n, _, hl, h0, h1⟩ := trod_struct2 Tryd.underlying28 h
  rw [show Tryd.prog.cellsOf 28 = 33 by kernel_rfl] at hl
  obtain ⟨y, hy⟩ := id_of_trod Tryd.underlying22 cells22 h0
  obtain ⟨s, hs, _⟩ := DataW.trod_string Tryd.underlying9 h1
  simp only [cells22, List.drop_zero] at hy
  simp only [show Tryd.prog.cellsOf 9 = 1 by kernel_rfl] at hs
  refine ⟨(y, s), ?_⟩
  have e := drop_dec cs 0 32
  have e2 := drop_dec cs 32 1
  rw [List.drop_eq_nil_of_le (show cs.length ≤ 32 + 1 by omega), List.append_nil] at e2
  rw [List.drop_zero, Nat.zero_add, hy, e2, hs] at e
  exact e
theorem rc_of_trod {fuel : Nat} {cs : List Value} {x : DataW H × List MemPlace} (h : DataW.trod enc Tryd.prog w base spare held fuel 55 cs = some x) : ∃ c : Rc, cs = cK c := by
  obtain ⟨xs, n, _, rfl, hl, hlen, hf⟩ := DataW.trod_struct Tryd.underlying55 h
  rw [show Tryd.prog.cellsOf 55 = 37 by kernel_rfl] at hl
  have c3 : Tryd.prog.cellsOf 3 = 1 := by kernel_rfl
  have c9 : Tryd.prog.cellsOf 9 = 1 := by kernel_rfl
  match xs, hlen with
  | [y0, y1, y2, y3, y4, y5], _ =>
    have f0 : DataW.trod enc Tryd.prog w base spare held n 3 ((cs.drop 0).take (Tryd.prog.cellsOf 3)) = some y0 := by simpa using hf 0 _ rfl
    have f1 : DataW.trod enc Tryd.prog w base spare held n 3 ((cs.drop 1).take (Tryd.prog.cellsOf 3)) = some y1 := by simpa using hf 1 _ rfl
    have f2 : DataW.trod enc Tryd.prog w base spare held n 3 ((cs.drop 2).take (Tryd.prog.cellsOf 3)) = some y2 := by simpa using hf 2 _ rfl
    have f3 : DataW.trod enc Tryd.prog w base spare held n 3 ((cs.drop 3).take (Tryd.prog.cellsOf 3)) = some y3 := by simpa using hf 3 _ rfl
    have f4 : DataW.trod enc Tryd.prog w base spare held n 22 ((cs.drop 4).take (Tryd.prog.cellsOf 22)) = some y4 := by simpa using hf 4 _ rfl
    have f5 : DataW.trod enc Tryd.prog w base spare held n 9 ((cs.drop 36).take (Tryd.prog.cellsOf 9)) = some y5 := by simpa using hf 5 _ rfl
    rw [c3] at f0 f1 f2 f3
    rw [c9] at f5
    rw [cells22] at f4
    obtain ⟨n0, h0, _⟩ := DataW.trod_int Tryd.underlying3 f0
    obtain ⟨n1, h1, _⟩ := DataW.trod_int Tryd.underlying3 f1
    obtain ⟨n2, h2, _⟩ := DataW.trod_int Tryd.underlying3 f2
    obtain ⟨n3, h3, _⟩ := DataW.trod_int Tryd.underlying3 f3
    obtain ⟨y, h4⟩ := id_of_trod Tryd.underlying22 cells22 f4
    obtain ⟨s, h5, _⟩ := DataW.trod_string Tryd.underlying9 f5
    refine ⟨⟨n0, n1, n2, n3, y, s⟩, ?_⟩
    have e0 := drop_dec cs 0 1
    have e1 := drop_dec cs 1 1
    have e2 := drop_dec cs 2 1
    have e3 := drop_dec cs 3 1
    have e4 := drop_dec cs 4 32
    have e5 := drop_dec cs 36 1
    rw [List.drop_eq_nil_of_le (show cs.length ≤ 36 + 1 by omega), List.append_nil] at e5
    simp only [Nat.reduceAdd] at e0 e1 e2 e3 e4
    rw [h0, e1, h1, e2, h2, e3, h3, e4, h4, e5, h5, List.drop_zero] at e0
    exact e0
theorem op_of_trod {fuel : Nat} {cs : List Value} {x : DataW H × List MemPlace} (h : DataW.trod enc Tryd.prog w base spare held fuel 57 cs = some x) : ∃ y : Rop, cs = cQ y := by
  obtain ⟨y0, y1, y2, n, _, hl, h0, h1, h2⟩ := trod_struct3 Tryd.underlying57 h
  rw [show Tryd.prog.cellsOf 57 = 71 by kernel_rfl] at hl
  rw [cells5] at h0
  rw [show Tryd.prog.cellsOf 28 = 33 by kernel_rfl] at h1
  rw [show Tryd.prog.cellsOf 55 = 37 by kernel_rfl] at h2
  obtain ⟨b, hb⟩ := byte_of_trod h0
  obtain ⟨a, ha⟩ := art_of_trod h1
  obtain ⟨c, hc⟩ := rc_of_trod h2
  refine ⟨⟨b, a, c⟩, ?_⟩
  have e0 := drop_dec cs 0 1
  have e1 := drop_dec cs 1 33
  have e2 := drop_dec cs 34 37
  rw [List.drop_eq_nil_of_le (show cs.length ≤ 34 + 37 by omega), List.append_nil] at e2
  simp only [Nat.reduceAdd] at e0 e1
  rw [hb, e1, ha, e2, hc, List.drop_zero] at e0
  exact e0
end
theorem op_val_of_trod {H : Type} {enc : TypeId × Value → H} {w : World} {v : Value} {d : DataW H} {p : List MemPlace}
    (h : DataW.Trod enc Tryd.prog w 0 (fun _ => true) true 57 v d p) : ∃ y : Rop, v = vQ y := by
  obtain ⟨fuel, hf⟩ := h
  obtain ⟨y, hy⟩ := op_of_trod hf
  refine ⟨y, ?_⟩
  have hl : v.cells.toList.length = 71 := by rw [hy, cQ_length]
  cases v <;> simp [Value.cells] at hl hy
  · simp [vQ, ← hy]
section
variable {H : Type} {enc : TypeId × Value → H} {w : World}
theorem sl_of_trod {α : Type} [Inhabited α] (ec : α → List Value) (s : Nat) (hs0 : 0 < s) (hs : ∀ x, (ec x).length = s) {t e : TypeId} {a0 : Option Addr} {n c : Nat} {d : DataW H} {p : List MemPlace} (ht : Tryd.prog.underlying t = some (.slice e)) (hc : Tryd.prog.cellsOf e = s)
    (he : ∀ {fuel : Nat} {cs : List Value} {x : DataW H × List MemPlace}, DataW.trod enc Tryd.prog w 0 (fun _ => true) true fuel e cs = some x → ∃ y : α, cs = ec y)
    (h : DataW.Trod enc Tryd.prog w 0 (fun _ => true) true t (.slice a0 n c) d p) : ∃ xs : List α, xs.length = n ∧ n ≤ c ∧ c ≤ maxLen ∧ Sl w ec a0 xs := by
  obtain ⟨fuel, hf⟩ := h
  rcases open_slice ht hf with ⟨hcs, _⟩ | ⟨a, len, cap, m, k, D, Pl, hcs, _, hl, hm, hmm, _, hx⟩
  · simp [Value.cells] at hcs
    obtain ⟨rfl, rfl, rfl⟩ := hcs
    exact ⟨[], rfl, Nat.le_refl _, Nat.zero_le _, Sl.nil _ _ _⟩
  · simp [Value.cells] at hcs
    obtain ⟨rfl, rfl, rfl⟩ := hcs
    simp only [if_true] at hmm
    subst hmm
    have hid : ∀ i, i < n → ∃ y : α, ∀ j u, (ec y)[j]? = some u → w.cell? (a.add (i * s + j)) = some u := by
      intro i hi
      obtain ⟨cs', h1, h2⟩ := hx i (by omega)
      rw [hc] at h1
      obtain ⟨y, rfl⟩ := he h2
      obtain ⟨_, _, h3⟩ := World.cells?_some h1
      refine ⟨y, fun j u hu => ?_⟩
      have hj : j < s := by have := (List.getElem?_eq_some_iff.1 hu).1; rwa [hs] at this
      have := h3 j hj
      rw [Go.Deep.add_add] at this
      rw [this, hu]
    obtain ⟨f, hf'⟩ := choose_lt hid
    refine ⟨(List.range n).map f, by simp, hl, hm, fun hne => ⟨a, rfl, ?_, ?_⟩⟩
    · have hn : 0 < n := by
        rcases Nat.eq_zero_or_pos n with h0 | h0
        · subst h0; exact absurd rfl hne
        · exact h0
      have h1 := hf' 0 hn 0 ((ec (f 0))[0]'(by rw [hs]; omega)) (List.getElem?_eq_getElem _)
      have := block_lt_of_cell h1
      rwa [block_of_add] at this
    · intro j u hu
      have hlen : ((List.range n).map f).length = n := by simp
      have hj : j < n * s := by
        have := (List.getElem?_eq_some_iff.1 hu).1
        rwa [flatMap_length ec s hs, hlen] at this
      have hk : j / s < n := Nat.div_lt_of_lt_mul (by rwa [Nat.mul_comm] at hj)
      have e1 : j / s * s + j % s = j := Nat.div_add_mod' j s
      have e2 := flatMap_getElem ec s hs ((List.range n).map f) (j / s) (by rw [hlen]; exact hk) (j % s) (Nat.mod_lt _ hs0)
      rw [e1, hu] at e2
      have e3 : ((List.range n).map f)[j / s]'(by rw [hlen]; exact hk) = f (j / s) := by simp
      rw [e3] at e2
      have := hf' (j / s) hk (j % s) u e2.symm
      rwa [e1] at this
end
end Go.Proofs.YtlelecnafdddhaaDoor
