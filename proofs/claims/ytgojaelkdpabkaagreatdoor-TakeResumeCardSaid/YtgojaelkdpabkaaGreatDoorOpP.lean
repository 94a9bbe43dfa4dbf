/- How bytes and slices that come in read. -/
import Derived.Test.YtgojaelkdpabkaaGreatDoorDoA
namespace Go.Proofs.YtgojaelkdpabkaaGreatDoor
open Go.ChangeShapes Go.WideShapes Go.ChangeAt Go.RowKit Go.Deep
theorem byte_of_wf {n : Int} (hw : (Lit.int .u8 n).wf = true) : ∃ c : UInt8, n = (c.toNat : Int) := by
  simp [Lit.wf, IntKind.min, IntKind.max, IntKind.signed, IntKind.bits] at hw
  refine ⟨UInt8.ofNat n.toNat, ?_⟩
  rw [UInt8.toNat_ofNat']
  omega
section
variable {H : Type} {enc : TypeId × Value → H} {w : World}
theorem sl_of_trod {α : Type} [Inhabited α] (ec : α → List Value) (s : Nat) (hs0 : 0 < s) (hs : ∀ x, (ec x).length = s) {t e : TypeId} {a0 : Option Addr} {n c : Nat} {d : DataW H} {p : List MemPlace} (ht : Tryz.prog.underlying t = some (.slice e)) (hc : Tryz.prog.cellsOf e = s)
    (he : ∀ {fuel : Nat} {cs : List Value} {x : DataW H × List MemPlace}, DataW.trod enc Tryz.prog w 0 (fun _ => true) true fuel e cs = some x → ∃ y : α, cs = ec y)
    (h : DataW.Trod enc Tryz.prog w 0 (fun _ => true) true t (.slice a0 n c) d p) : ∃ xs : List α, xs.length = n ∧ n ≤ c ∧ c ≤ maxLen ∧ Sl w ec a0 xs := by
  obtain ⟨fuel, hf⟩ := h
  rcases open_slice ht hf with ⟨hcs, _⟩ | ⟨a, len, cap, m, k, D, Pl, hcs, _, hl, hm, hmm, _, hx⟩
  · simp [Value.cells] at hcs
    obtain ⟨rfl, rfl, rfl⟩ := hcs
    exact ⟨[], rfl, Nat.le_refl _, Nat.zero_le _, Sl.nil _ _ _⟩
  · simp [Value.cells] at hcs
    obtain ⟨rfl, rfl, rfl⟩ := hcs
    simp only [if_true] at hmm
    subst hmm
    have hid : ∀ i, i < n → ∃ y : α, ∀ j u, (ec y)[j]? = some u → w.cell? (a.add (i * s + j)) = some u := by
      intro i hi
      obtain ⟨cs', h1, h2⟩ := hx i (by omega)
      rw [hc] at h1
      obtain ⟨y, rfl⟩ := he h2
      obtain ⟨_, _, h3⟩ := World.cells?_some h1
      refine ⟨y, fun j u hu => ?_⟩
      have hj : j < s := by have := (List.getElem?_eq_some_iff.1 hu).1; rwa [hs] at this
      have := h3 j hj
      rw [Go.Deep.add_add] at this
      rw [this, hu]
    obtain ⟨f, hf'⟩ := choose_lt hid
    refine ⟨(List.range n).map f, by simp, hl, hm, fun hne => ⟨a, rfl, ?_, ?_⟩⟩
    · have hn : 0 < n := by
        rcases Nat.eq_zero_or_pos n with h0 | h0
        · subst h0; exact absurd rfl hne
        · exact h0
      have h1 := hf' 0 hn 0 ((ec (f 0))[0]'(by rw [hs]; omega)) (List.getElem?_eq_getElem _)
      have := block_lt_of_cell h1
      rwa [block_of_add] at this
    · intro j u hu
      have hlen : ((List.range n).map f).length = n := by simp
      have hj : j < n * s := by
        have := (List.getElem?_eq_some_iff.1 hu).1
        rwa [flatMap_length ec s hs, hlen] at this
      have hk : j / s < n := Nat.div_lt_of_lt_mul (by rwa [Nat.mul_comm] at hj)
      have e1 : j / s * s + j % s = j := Nat.div_add_mod' j s
      have e2 := flatMap_getElem ec s hs ((List.range n).map f) (j / s) (by rw [hlen]; exact hk) (j % s) (Nat.mod_lt _ hs0)
      rw [e1, hu] at e2
      have e3 : ((List.range n).map f)[j / s]'(by rw [hlen]; exact hk) = f (j / s) := by simp
      rw [e3] at e2
      have := hf' (j / s) hk (j % s) u e2.symm
      rwa [e1] at this
def CmI := { c : Cm // c.ints }
instance : Inhabited CmI := ⟨⟨zC, ⟨⟨by decide, by decide⟩, ⟨by decide, by decide⟩, ⟨by decide, by decide⟩, ⟨by decide, by decide⟩⟩⟩⟩
theorem rcs_of_trod {t : TypeId} {a0 : Option Addr} {n c : Nat} {d : DataW H} {p : List MemPlace} (ht : Tryz.prog.underlying t = some (.slice 35)) (h : DataW.Trod enc Tryz.prog w 0 (fun _ => true) true t (.slice a0 n c) d p) :
    ∃ xs : List Cm, xs.length = n ∧ n ≤ c ∧ c ≤ maxLen ∧ Sl w cC a0 xs ∧ ∀ x ∈ xs, x.ints := by
  obtain ⟨xs, h1, h2, h3, h4⟩ := sl_of_trod (α := CmI) (fun x => cC x.1) 39 (by decide) (fun x => cC_length x.1) ht (by kernel_rfl) (fun h => by
    obtain ⟨c, e, hc⟩ := rc_of_trod h
    exact ⟨⟨c, hc⟩, e⟩) h
  refine ⟨xs.map (·.1), by rw [List.length_map, h1], h2, h3, fun hne => ?_, fun x hx => ?_⟩
  · obtain ⟨ad, e, hat⟩ := h4 (fun e => hne (by rw [e]; rfl))
    refine ⟨ad, e, ?_⟩
    rw [List.flatMap_map]
    exact hat
  · obtain ⟨y, _, rfl⟩ := List.mem_map.1 hx
    exact y.2
end
end Go.Proofs.YtgojaelkdpabkaaGreatDoor
