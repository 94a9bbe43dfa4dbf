/- A text as bytes of the call's own: one byte stored anew. -/
import Derived.Test.YtecalodcbkljoaaGreatDoorMRhx
import Derived.Test.YtecalodcbkljoaaGreatDoorMHam
namespace Go.Proofs.YtecalodcbkljoaaGreatDoor
open Go.RowKit
/-- A block that holds the bytes of a text. -/
def BRow (w : World) (g : Nat) (l : List UInt8) : Prop := ∃ (cs : Array Value) (t : TypeId) (n : Nat), w.heap[g]? = some (.cells cs t (n, n + 1)) ∧ l.length ≤ n ∧ n ≤ cs.size ∧ ∀ (j : Nat) (u : Value), (l.map cB)[j]? = some u → cs[j]? = some u
section
variable {w w' : World} {g : Nat} {l : List UInt8}
theorem BRow.lt (h : BRow w g l) : g < w.heap.size := by
  obtain ⟨cs, t, n, h1, -⟩ := h
  exact (Array.getElem?_eq_some_iff.1 h1).1
theorem BRow.keep (h : BRow w g l) (hb : Below w.heap.size w w') : BRow w' g l := by
  have hl := h.lt
  obtain ⟨cs, t, n, h1, h2⟩ := h
  exact ⟨cs, t, n, (hb.block g hl).trans h1, h2⟩
theorem BRow.same (h : BRow w g l) (hb : w'.heap[g]? = w.heap[g]?) : BRow w' g l := by
  obtain ⟨cs, t, n, h1, h2⟩ := h
  exact ⟨cs, t, n, hb.trans h1, h2⟩
theorem BRow.cell (h : BRow w g l) (k : Nat) (c : UInt8) (hc : l[k]? = some c) : w.cell? ⟨g, k, none⟩ = some (cB c) := by
  obtain ⟨cs, t, n, h1, -, -, h4⟩ := h
  have := h4 k (cB c) (by rw [List.getElem?_map, hc]; rfl)
  simp [World.cell?, h1, this]
theorem BRow.fz (h : BRow w g l) (k : Nat) (hk : k < l.length) : w.frozen? ⟨g, k, none⟩ = false := by
  obtain ⟨cs, t, n, h1, h2, -, -⟩ := h
  simp [World.frozen?, h1]
  omega
theorem BRow.sl (h : BRow w g l) : Sl w c1 (some ⟨g, 0, none⟩) l := by
  refine Sl.ofAt ⟨h.lt, fun j u hu => ?_⟩
  obtain ⟨cs, t, n, h1, -, -, h4⟩ := h
  rw [add_off, Nat.zero_add]
  have := h4 j u hu
  simp [World.cell?, h1, this]
theorem BRow.set (h : BRow w g l) (k : Nat) (c : UInt8) (hk : k < l.length) : BRow (w.setCell ⟨g, k, none⟩ (cB c)) g (l.set k c) := by
  obtain ⟨cs, t, n, h1, h2, h3, h4⟩ := h
  refine ⟨cs.setIfInBounds k (cB c), t, n, ?_, by rw [List.length_set]; exact h2, by simpa using h3, fun j u hu => ?_⟩
  · simp only [World.setCell, Array.getElem?_modify, h1]
    simp
  · rw [List.map_set] at hu
    rw [Array.getElem?_setIfInBounds]
    by_cases e : k = j
    · subst e
      rw [List.getElem?_set_self (by rw [List.length_map]; exact hk)] at hu
      rw [if_pos rfl, if_pos (by omega)]
      exact hu
    · rw [List.getElem?_set_ne e] at hu
      rw [if_neg e]
      exact h4 j u hu
end
/-- A text turned into bytes. -/
theorem conv_brow (w : World) (s : ByteArray) : ∃ c w', (convert 9 47 (.string s)).run Tryz.prog w = .ok (.slice (some ⟨w.heap.size, 0, none⟩) s.size c) w' ∧ Below w.heap.size w w' ∧ BRow w' w.heap.size (bl s) ∧ s.size ≤ c ∧ w'.heap.size = w.heap.size + 1 := by
  refine ⟨_, _, Lib.run_convert_string_bytes w 9 47 5 s Tryz.underlying9 underBs Tryz.underlying5, ⟨rfl, rfl, rfl, by rw [Lib.bytesWorld_size]; omega, fun k hk => Lib.bytesWorld_at_old w _ s k hk⟩, ?_, grownCap_ge _ _ _ _, Lib.bytesWorld_size _ _ _⟩
  refine ⟨_, _, _, Lib.bytesWorld_at_new w _ s, ?_, Nat.le_refl _, fun j u hu => ?_⟩
  · rw [bl_length]
    simp only [Lib.bytesCells, Array.size_append, Array.size_map]
    show s.size ≤ s.data.size + _
    have : s.data.size = s.size := rfl
    omega
  · have hj : j < s.size := by
      have := (List.getElem?_eq_some_iff.1 hu).1
      rwa [List.length_map, bl_length] at this
    have h1 := Lib.bytesWorld_cell w 5 s j hj
    rw [List.getElem?_map, List.getElem?_eq_getElem (by rw [bl_length]; exact hj)] at hu
    have hu2 : u = cB ((bl s)[j]'(by rw [bl_length]; exact hj)) := (Option.some.inj hu).symm
    subst hu2
    simp only [World.cell?, Lib.bytesWorld_at_new] at h1
    have h2 : (Lib.bytesCells w 5 s)[j]? = some (.int .u8 ((s.data.toList.getD j 0).toNat : Int)) := by simpa using h1
    rw [h2, List.getD_eq_getElem?_getD, List.getElem?_eq_getElem (show j < s.data.toList.length from by rw [← bl_length] at hj; exact hj)]
    rfl
theorem ofInt_byte (x : UInt8) : BitVec.ofInt 8 (x.toNat : Int) = x.toBitVec := by
  apply BitVec.eq_of_toNat_eq
  rw [BitVec.toNat_ofInt]
  have := x.toNat_lt
  show ((x.toNat : Int) % ((2 ^ 8 : Nat) : Int)).toNat = x.toNat
  omega
theorem b_xor (x y : UInt8) : bits .xor .u8 (x.toNat : Int) (y.toNat : Int) = ((x ^^^ y).toNat : Int) := by
  show IntKind.u8.wrap ((BitVec.ofInt 8 (x.toNat : Int) ^^^ BitVec.ofInt 8 (y.toNat : Int)).toNat : Int) = _
  rw [ofInt_byte, ofInt_byte]
  have h : (x.toBitVec ^^^ y.toBitVec).toNat = (x ^^^ y).toNat := rfl
  rw [h]
  generalize x ^^^ y = z
  have := z.toNat_lt
  simp only [IntKind.wrap, IntKind.bits, IntKind.signed]
  simp
  omega
theorem xor_ne {x y : UInt8} (h : y ≠ 0) : x ^^^ y ≠ x := by
  intro e
  apply h
  have h2 : x ^^^ (x ^^^ y) = x ^^^ x := by rw [e]
  rw [← UInt8.xor_assoc, UInt8.xor_self, UInt8.zero_xor] at h2
  exact h2
end Go.Proofs.YtecalodcbkljoaaGreatDoor
