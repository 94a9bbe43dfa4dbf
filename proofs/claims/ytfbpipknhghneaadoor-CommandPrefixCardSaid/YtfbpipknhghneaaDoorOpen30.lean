/- How a command of the reference reads that comes in. -/
import Derived.Test.YtfbpipknhghneaaDoorDoor30
import Derived.Test.YtfbpipknhghneaaDoorLaw304
namespace Go.Proofs.YtfbpipknhghneaaDoor
open Go.ChangeShapes Go.WideShapes Go.ChangeAt Go.RowKit Go.Deep
theorem drop_dec {α : Type} (cs : List α) (k n : Nat) : cs.drop k = (cs.drop k).take n ++ cs.drop (k + n) := by
  rw [← List.drop_drop, List.take_append_drop]
theorem i64_of_wf {n : Int} (hw : (Lit.int .i64 n).wf = true) : i64 n := by
  simp [Lit.wf, IntKind.min, IntKind.max, IntKind.signed, IntKind.bits] at hw
  unfold i64
  omega
section
variable {H : Type} {enc : TypeId × Value → H} {w : World} {base : Nat} {spare : Nat → Bool} {held : Bool}
theorem rc_of_trod {fuel : Nat} {cs : List Value} {x : DataW H × List MemPlace} (h : DataW.trod enc Tryd.prog w base spare held fuel 31 cs = some x) : ∃ c : Cm, cs = cC c ∧ c.ints := by
  obtain ⟨xs, n, _, rfl, hl, hlen, hf⟩ := DataW.trod_struct Tryd.underlying31 h
  rw [show Tryd.prog.cellsOf 31 = 39 by kernel_rfl] at hl
  have c3 : Tryd.prog.cellsOf 3 = 1 := by kernel_rfl
  have c9 : Tryd.prog.cellsOf 9 = 1 := by kernel_rfl
  match xs, hlen with
  | [y0, y1, y2, y3, y4, y5, y6, y7], _ =>
    have f0 : DataW.trod enc Tryd.prog w base spare held n 3 ((cs.drop 0).take (Tryd.prog.cellsOf 3)) = some y0 := by simpa using hf 0 _ rfl
    have f1 : DataW.trod enc Tryd.prog w base spare held n 9 ((cs.drop 1).take (Tryd.prog.cellsOf 9)) = some y1 := by simpa using hf 1 _ rfl
    have f2 : DataW.trod enc Tryd.prog w base spare held n 23 ((cs.drop 2).take (Tryd.prog.cellsOf 23)) = some y2 := by simpa using hf 2 _ rfl
    have f3 : DataW.trod enc Tryd.prog w base spare held n 3 ((cs.drop 34).take (Tryd.prog.cellsOf 3)) = some y3 := by simpa using hf 3 _ rfl
    have f4 : DataW.trod enc Tryd.prog w base spare held n 3 ((cs.drop 35).take (Tryd.prog.cellsOf 3)) = some y4 := by simpa using hf 4 _ rfl
    have f5 : DataW.trod enc Tryd.prog w base spare held n 3 ((cs.drop 36).take (Tryd.prog.cellsOf 3)) = some y5 := by simpa using hf 5 _ rfl
    have f6 : DataW.trod enc Tryd.prog w base spare held n 3 ((cs.drop 37).take (Tryd.prog.cellsOf 3)) = some y6 := by simpa using hf 6 _ rfl
    have f7 : DataW.trod enc Tryd.prog w base spare held n 9 ((cs.drop 38).take (Tryd.prog.cellsOf 9)) = some y7 := by simpa using hf 7 _ rfl
    rw [c3] at f0 f3 f4 f5 f6
    rw [c9] at f1 f7
    rw [cells22] at f2
    obtain ⟨n0, h0, _⟩ := DataW.trod_int Tryd.underlying3 f0
    obtain ⟨s1, h1, _⟩ := DataW.trod_string Tryd.underlying9 f1
    obtain ⟨y, h2⟩ := id_of_trod Tryd.underlying23 cells22 f2
    obtain ⟨n3, h3, _, w3⟩ := DataW.trod_int Tryd.underlying3 f3
    obtain ⟨n4, h4, _, w4⟩ := DataW.trod_int Tryd.underlying3 f4
    obtain ⟨n5, h5, _, w5⟩ := DataW.trod_int Tryd.underlying3 f5
    obtain ⟨n6, h6, _, w6⟩ := DataW.trod_int Tryd.underlying3 f6
    obtain ⟨s7, h7, _⟩ := DataW.trod_string Tryd.underlying9 f7
    refine ⟨⟨n0, s1, y, n3, n4, n5, n6, s7⟩, ?_, ⟨i64_of_wf w3, i64_of_wf w4, i64_of_wf w5, i64_of_wf w6⟩⟩
    have e0 := drop_dec cs 0 1
    have e1 := drop_dec cs 1 1
    have e2 := drop_dec cs 2 32
    have e3 := drop_dec cs 34 1
    have e4 := drop_dec cs 35 1
    have e5 := drop_dec cs 36 1
    have e6 := drop_dec cs 37 1
    have e7 := drop_dec cs 38 1
    rw [List.drop_eq_nil_of_le (show cs.length ≤ 38 + 1 by omega), List.append_nil] at e7
    simp only [Nat.reduceAdd] at e0 e1 e2 e3 e4 e5 e6
    rw [h0, e1, h1, e2, h2, e3, h3, e4, h4, e5, h5, e6, h6, e7, h7, List.drop_zero] at e0
    exact e0
end
theorem rc_val_of_trod {H : Type} {enc : TypeId × Value → H} {w : World} {v : Value} {d : DataW H} {p : List MemPlace}
    (h : DataW.Trod enc Tryd.prog w 0 (fun _ => true) true 31 v d p) : ∃ c : Cm, v = vC c ∧ c.ints := by
  obtain ⟨fuel, hf⟩ := h
  obtain ⟨c, hc, hi⟩ := rc_of_trod hf
  refine ⟨c, ?_, hi⟩
  have hl : v.cells.toList.length = 39 := by rw [hc, cC_length]
  cases v <;> simp [Value.cells] at hl hc
  · simp [vC, ← hc]
end Go.Proofs.YtfbpipknhghneaaDoor
