/- How the arguments of the laws read: a slice of identities, an identity by value. -/
import Derived.Test.YtcchpenaiomeeaaLaws
import Derived.ProofKit
import Derived.OpenShut
import Derived.ShutString
import Derived.ChangeOld
import Derived.Deep.Slices
namespace Go.Proofs.Ytcchpenaiomeeaa
open Go.ChangeShapes Go.WideShapes Go.ChangeAt Go.RowKit Go.Deep

theorem ownTry : ownKnob Try.prog.godebug = none := by kernel_rfl
theorem laidOutTry : laidOutB Try.prog = true := by kernel_rfl
theorem cells33 : Try.prog.cellsOf 33 = 32 := by kernel_rfl
theorem cells38 : Try.prog.cellsOf 38 = 32 := by kernel_rfl
theorem cells5 : Try.prog.cellsOf 5 = 1 := by kernel_rfl

section
variable {H : Type} {enc : TypeId × Value → H} {w : World} {base : Nat} {spare : Nat → Bool} {held : Bool}
/-- Cells that read as a byte. -/
theorem byte_of_trod {fuel : Nat} {cs : List Value} {x : DataW H × List MemPlace} (h : DataW.trod enc Try.prog w base spare held fuel 5 cs = some x) : ∃ b : UInt8, cs = [cB b] := by
  obtain ⟨n, rfl, _, hw⟩ := DataW.trod_int Try.underlying5 h
  simp [Lit.wf, IntKind.min, IntKind.max, IntKind.signed, IntKind.bits] at hw
  refine ⟨UInt8.ofNat n.toNat, ?_⟩
  have e : ((UInt8.ofNat n.toNat).toNat : Int) = n := by
    rw [UInt8.toNat_ofNat']
    omega
  unfold cB
  rw [e]
/-- Cells that read as an array of 32 bytes. -/
theorem id_of_trod {t : TypeId} {fuel : Nat} {cs : List Value} {x : DataW H × List MemPlace} (ht : Try.prog.underlying t = some (.array 32 5)) (hc : Try.prog.cellsOf t = 32) (h : DataW.trod enc Try.prog w base spare held fuel t cs = some x) :
    ∃ y : Id, cs = cI y := by
  obtain ⟨xs, m, _, _, hl, hxs, hel⟩ := DataW.trod_array ht h
  rw [hc] at hl
  have hb : ∀ i, i < 32 → ∃ b : UInt8, (cs.drop i).take 1 = [cB b] := by
    intro i hi
    have h1 := hel i hi
    rw [cells5, Nat.mul_one, List.getElem?_eq_getElem (by omega)] at h1
    exact byte_of_trod h1
  obtain ⟨f, hf⟩ := choose_lt (α := UInt8) hb
  refine ⟨⟨(List.range 32).map f, by simp⟩, ?_⟩
  unfold cI
  refine List.ext_getElem (by simp [hl]) fun i h1 h2 => ?_
  have h3 := hf i (by omega)
  rw [List.drop_eq_getElem_cons h1, List.take_succ_cons] at h3
  simp only [List.cons.injEq] at h3
  simp [h3.1]
/-- A slice of identities that came in: it reads as a list. -/
theorem ids_of_trod {t e : TypeId} {a0 : Option Addr} {n c : Nat} {d : DataW H} {p : List MemPlace} (ht : Try.prog.underlying t = some (.slice e)) (he : Try.prog.underlying e = some (.array 32 5)) (hc : Try.prog.cellsOf e = 32)
    (h : DataW.Trod enc Try.prog w 0 (fun _ => true) true t (.slice a0 n c) d p) : ∃ xs : List Id, xs.length = n ∧ n ≤ c ∧ c ≤ maxLen ∧ Sl w cI a0 xs := by
  obtain ⟨fuel, hf⟩ := h
  rcases open_slice ht hf with ⟨hcs, _⟩ | ⟨a, len, cap, m, k, D, Pl, hcs, _, hl, hm, hmm, _, hx⟩
  · simp [Value.cells] at hcs
    obtain ⟨rfl, rfl, rfl⟩ := hcs
    exact ⟨[], rfl, Nat.le_refl _, Nat.zero_le _, Sl.nil _ _ _⟩
  · simp [Value.cells] at hcs
    obtain ⟨rfl, rfl, rfl⟩ := hcs
    simp only [if_true] at hmm
    subst hmm
    have hid : ∀ i, i < n → ∃ y : Id, ∀ j u, (cI y)[j]? = some u → w.cell? (a.add (i * 32 + j)) = some u := by
      intro i hi
      obtain ⟨cs', h1, h2⟩ := hx i (by omega)
      rw [hc] at h1
      obtain ⟨y, rfl⟩ := id_of_trod he hc h2
      obtain ⟨_, _, h3⟩ := World.cells?_some h1
      refine ⟨y, fun j u hu => ?_⟩
      have hj : j < 32 := by have := (List.getElem?_eq_some_iff.1 hu).1; rwa [cI_length] at this
      have := h3 j hj
      rw [Go.Deep.add_add] at this
      rw [this, hu]
    haveI : Inhabited Id := ⟨zI⟩
    obtain ⟨f, hf'⟩ := choose_lt hid
    refine ⟨(List.range n).map f, by simp, hl, hm, fun hne => ⟨a, rfl, ?_, ?_⟩⟩
    · have hn : 0 < n := by
        rcases Nat.eq_zero_or_pos n with h0 | h0
        · subst h0; exact absurd rfl hne
        · exact h0
      have h1 := hf' 0 hn 0 ((cI (f 0))[0]'(by rw [cI_length]; omega)) (List.getElem?_eq_getElem _)
      have := block_lt_of_cell h1
      rwa [block_of_add] at this
    · intro j u hu
      have hlen : ((List.range n).map f).length = n := by simp
      have hj : j < n * 32 := by
        have := (List.getElem?_eq_some_iff.1 hu).1
        rwa [flatMap_length cI 32 cI_length, hlen] at this
      have hk : j / 32 < n := by omega
      have e1 : j = j / 32 * 32 + j % 32 := by omega
      have e2 := flatMap_getElem cI 32 cI_length ((List.range n).map f) (j / 32) (by rw [hlen]; exact hk) (j % 32) (by omega)
      rw [← e1, hu] at e2
      have e3 : ((List.range n).map f)[j / 32]'(by rw [hlen]; exact hk) = f (j / 32) := by simp
      rw [e3] at e2
      have := hf' (j / 32) hk (j % 32) u e2.symm
      rwa [← e1] at this
end
end Go.Proofs.Ytcchpenaiomeeaa
