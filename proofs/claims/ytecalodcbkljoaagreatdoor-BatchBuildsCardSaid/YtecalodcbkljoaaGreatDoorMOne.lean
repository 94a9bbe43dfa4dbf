/- What a call turns that stores into one block. -/
import Derived.Test.YtecalodcbkljoaaGreatDoorMPro
namespace Go.Proofs.YtecalodcbkljoaaGreatDoor
open Go.RowKit
/-- What a call turns that stores into block g. -/
structure One (g : Nat) (w w' : World) : Prop where
  os : w'.os = w.os
  tape : w'.tape = w.tape
  output : w'.output = w.output
  size : w.heap.size ≤ w'.heap.size
  out : ∀ k, k < w.heap.size → k ≠ g → w'.heap[k]? = w.heap[k]?
section
variable {g : Nat} {w w' w'' : World}
theorem One.refl : One g w w := ⟨rfl, rfl, rfl, Nat.le_refl _, fun _ _ _ => rfl⟩
theorem One.trans (h : One g w w') (k : One g w' w'') : One g w w'' := ⟨k.os.trans h.os, k.tape.trans h.tape, k.output.trans h.output, Nat.le_trans h.size k.size, fun j hj hg => (k.out j (Nat.lt_of_lt_of_le hj h.size) hg).trans (h.out j hj hg)⟩
theorem One.of_below (h : Below w.heap.size w w') : One g w w' := ⟨h.os, h.tape, h.output, h.size, fun k hk _ => h.block k hk⟩
theorem One.set (k : Nat) (v : Value) : One g w (w.setCell ⟨g, k, none⟩ v) := ⟨rfl, rfl, rfl, by simp [World.setCell], fun j _ hj => heap_set_other w g k v j hj⟩
theorem One.stD (k : Nat) (ds : List Value) : One g w (stD w g k ds) := by
  obtain ⟨h1, h2, h3⟩ := setCells_os g ds k w
  exact ⟨h1, h2, h3, Nat.le_of_eq (setCells_size g ds k w).symm, fun j _ hj => heap_stD_other w g k ds j hj⟩
theorem One.row {b : Nat} {cs : List Value} {t : TypeId} (h : One g w w') (hr : Row w b cs t) (hb : b ≠ g) : Row w' b cs t := hr.same (h.out b hr.lt hb)
theorem One.below {B : Nat} (h : One g w w') (hB : B ≤ g) (hw : B ≤ w.heap.size) : Below B w w' := ⟨h.os, h.tape, h.output, h.size, fun k hk => h.out k (Nat.lt_of_lt_of_le hk hw) (by omega)⟩
end
theorem One.setRow {w : World} (b : Nat) (ds : Array Value) : One b w (w.setRow b ds) := by
  refine ⟨rfl, rfl, rfl, by simp [World.setRow], fun k _ hk => ?_⟩
  show (w.heap.modify b _)[k]? = _
  rw [Array.getElem?_modify, if_neg (fun e => hk e.symm)]
end Go.Proofs.YtecalodcbkljoaaGreatDoor
