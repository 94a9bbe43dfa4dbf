/- How operations come in. -/
import Derived.Test.YtgojaelkdpabkaaGreatDoorTyT
import Derived.Test.YtgojaelkdpabkaaGreatDoorOpP
namespace Go.Proofs.YtgojaelkdpabkaaGreatDoor
open Go.ChangeShapes Go.WideShapes Go.ChangeAt Go.RowKit Go.Deep
structure Opn.ints (o : Opn) : Prop where
  cmd : o.cmd.ints
  res : -9223372036854775808 ≤ o.result ∧ o.result ≤ 9223372036854775807
section
variable {H : Type} {enc : TypeId × Value → H} {w : World}
theorem op_of_trod {fuel : Nat} {cs : List Value} {x : DataW H × List MemPlace} (h : DataW.trod enc Tryz.prog w 0 (fun _ => true) true fuel 37 cs = some x) : ∃ o : Opn, cs = cO o ∧ o.ints := by
  obtain ⟨xs, n, _, rfl, hl, hlen, hf⟩ := DataW.trod_struct Tryz.underlying37 h
  rw [show Tryz.prog.cellsOf 37 = 41 by kernel_rfl] at hl
  have c3 : Tryz.prog.cellsOf 3 = 1 := by kernel_rfl
  have c35 : Tryz.prog.cellsOf 35 = 39 := by kernel_rfl
  match xs, hlen with
  | [y0, y1, y2], _ =>
    have f0 : DataW.trod enc Tryz.prog w 0 (fun _ => true) true n 3 ((cs.drop 0).take (Tryz.prog.cellsOf 3)) = some y0 := by simpa using hf 0 _ rfl
    have f1 : DataW.trod enc Tryz.prog w 0 (fun _ => true) true n 35 ((cs.drop 1).take (Tryz.prog.cellsOf 35)) = some y1 := by simpa using hf 1 _ rfl
    have f2 : DataW.trod enc Tryz.prog w 0 (fun _ => true) true n 3 ((cs.drop 40).take (Tryz.prog.cellsOf 3)) = some y2 := by simpa using hf 2 _ rfl
    rw [c3] at f0 f2
    rw [c35] at f1
    obtain ⟨n0, h0, _⟩ := DataW.trod_int Tryz.underlying3 f0
    obtain ⟨c, h1, hc⟩ := rc_of_trod f1
    obtain ⟨n2, h2, _, w2⟩ := DataW.trod_int Tryz.underlying3 f2
    refine ⟨⟨n0, c, n2⟩, ?_, ⟨hc, i64_of_wf w2⟩⟩
    have e0 := drop_dec cs 0 1
    have e1 := drop_dec cs 1 39
    have e2 := drop_dec cs 40 1
    simp only [Nat.reduceAdd] at e0 e1 e2
    rw [List.drop_zero] at e0
    rw [e0, show cs.take 1 = _ from by simpa using h0, e1, h1, e2, h2, List.drop_of_length_le (by omega)]
    rfl
theorem op_val_of_trod {v : Value} {d : DataW H} {p : List MemPlace} (h : DataW.Trod enc Tryz.prog w 0 (fun _ => true) true 37 v d p) : ∃ o : Opn, v = vO o ∧ o.ints := by
  obtain ⟨fuel, hf⟩ := h
  obtain ⟨c, hc, hi⟩ := op_of_trod hf
  refine ⟨c, ?_, hi⟩
  have hl : v.cells.toList.length = 41 := by rw [hc, cO_length]
  cases v <;> simp [Value.cells] at hl hc
  · simp [vO, ← hc]
def OpI := { o : Opn // o.ints }
instance : Inhabited OpI := ⟨⟨zO, ⟨⟨⟨by decide, by decide⟩, ⟨by decide, by decide⟩, ⟨by decide, by decide⟩, ⟨by decide, by decide⟩⟩, by decide, by decide⟩⟩⟩
theorem ops_of_trod {t : TypeId} {a0 : Option Addr} {n c : Nat} {d : DataW H} {p : List MemPlace} (ht : Tryz.prog.underlying t = some (.slice 37)) (h : DataW.Trod enc Tryz.prog w 0 (fun _ => true) true t (.slice a0 n c) d p) :
    ∃ xs : List Opn, xs.length = n ∧ n ≤ c ∧ c ≤ maxLen ∧ Sl w cO a0 xs ∧ ∀ x ∈ xs, x.ints := by
  obtain ⟨xs, h1, h2, h3, h4⟩ := sl_of_trod (α := OpI) (fun x => cO x.1) 41 (by decide) (fun x => cO_length x.1) ht (by kernel_rfl) (fun h => by
    obtain ⟨c, e, hc⟩ := op_of_trod h
    exact ⟨⟨c, hc⟩, e⟩) h
  refine ⟨xs.map (·.1), by rw [List.length_map, h1], h2, h3, fun hne => ?_, fun x hx => ?_⟩
  · obtain ⟨ad, e, hat⟩ := h4 (fun e => hne (by rw [e]; rfl))
    refine ⟨ad, e, ?_⟩
    rw [List.flatMap_map]
    exact hat
  · obtain ⟨y, _, rfl⟩ := List.mem_map.1 hx
    exact y.2
end
end Go.Proofs.YtgojaelkdpabkaaGreatDoor
