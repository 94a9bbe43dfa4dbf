/- A builder's calls, one behind the other: what each keeps; what Add answers. -/
import Derived.Test.YtecalodcbkljoaaGreatDoorMBla
namespace Go.Proofs.YtecalodcbkljoaaGreatDoor
open Go.RowKit
theorem KeepF.step {B : Nat} {F : List Nat} {w0 w w' : World} (h : KeepF B F w w') (hb : Below w0.heap.size w0 w) (hB : w0.heap.size ≤ B) : Below w0.heap.size w0 w' := ⟨h.1.os.trans hb.os, h.1.tape.trans hb.tape, h.1.output.trans hb.output, Nat.le_trans hb.size h.1.size, fun k hk => (h.1.block k (Nat.lt_of_lt_of_le hk hB)).trans (hb.block k hk)⟩
theorem KeepF.row {B : Nat} {F : List Nat} {w w' : World} (h : KeepF B F w w') {b : Nat} {cs : List Value} {t : TypeId} (hr : Row w b cs t) (hb : b < B) : Row w' b cs t := hr.same (h.1.block b hb)
/-- What Add answers, by the text's size alone. -/
theorem addE_five {n : Int} {l : List It} {x : It} (h : n < (sizeN 1 (itN x) : Int)) : addE n l x = (5, l) := by unfold addE; rw [if_pos h]
theorem addE_nine {n : Int} {l : List It} {x : It} (h : ¬ n < (sizeN 1 (itN x) : Int)) (h2 : n < (sizeN (l.length + 1) (sumN l + itN x) : Int)) : addE n l x = (9, l) ∧ 0 < l.length := by
  unfold addE
  rw [if_neg h, if_pos h2]
  refine ⟨rfl, ?_⟩
  rcases l with _ | ⟨y, r⟩
  · exfalso
    apply h
    have : sumN ([] : List It) + itN x = itN x := by simp [sumN]
    rw [this] at h2
    exact h2
  · simp
theorem addE_zero {n : Int} {l : List It} {x : It} (h : ¬ n < (sizeN 1 (itN x) : Int)) (h2 : ¬ n < (sizeN (l.length + 1) (sumN l + itN x) : Int)) : addE n l x = (0, l ++ [x]) := by unfold addE; rw [if_neg h, if_neg h2]
theorem add_zeroA (a : Addr) : a.add 0 = a := by
  obtain ⟨b, k, s⟩ := a
  unfold Addr.add
  split <;> simp_all
theorem KeepF.rowF {B : Nat} {F : List Nat} {w w' : World} (h : KeepF B F w w') {b : Nat} {cs : List Value} {t : TypeId} (hr : Row w b cs t) (hb : b ∈ F) : Row w' b cs t := hr.same (h.2 b hb)
theorem KeepF.sub {B : Nat} {F G : List Nat} {w w' : World} (h : KeepF B F w w') (hg : ∀ k ∈ G, k ∈ F) : KeepF B G w w' := ⟨h.1, fun k hk => h.2 k (hg k hk)⟩
theorem BdL.sub {B g : Nat} {most : Int} {l : List It} {F G : List Nat} {w : World} (h : BdL B g most l F w) (hg : ∀ k ∈ G, k ∈ F) : BdL B g most l G w := by
  obtain ⟨v, h1, h2, h3, h4⟩ := h
  exact ⟨v, h1, fun k hk hm => h2 k hk (hg k hm), fun k hk => h3 k (hg k hk), h4⟩
/-- A slice of the call's own that has grown beside a builder: its new block too. -/
theorem BdL.grewN {B g : Nat} {most : Int} {l : List It} {F : List Nat} {w w' : World} {o o' : Option Nat} (h : BdL B g most l F w) (hg : w.grownBy w' o) (ho : ∀ k, o = some k → k ∈ F ∧ B ≤ k) (hat : o' = o ∨ o' = some w.heap.size) (hlt : ∀ k, o' = some k → k < w'.heap.size) : BdL B g most l (o'.toList ++ F) w' := by
  have h5 := h.grew hg ho
  rcases hat with rfl | rfl
  · refine h5.sub fun k hk => ?_
    rcases List.mem_append.1 hk with h6 | h6
    · exact (ho k (Option.mem_toList.1 h6)).1
    · exact h6
  · obtain ⟨v, h1, h2, h3, h4⟩ := h
    obtain ⟨u, g1, g2, g3, g4⟩ := h5
    have hv : ∃ v, BdI B g most l v w' ∧ (∀ k, v.ownBlock = some k → k ∉ F ∧ k ≠ w.heap.size) := by
      refine ⟨v, ⟨h1.row.same (hg.block g h1.row.lt (fun e => (h3 g (ho g e.symm).1).2 rfl)), ?_, h1.ne, h1.le, h1.lim, h1.cnt, h1.txt, h1.fit, g1.laid⟩, fun k hk => ⟨h2 k hk, fun e => by have := (h1.own.lt k hk).2; omega⟩⟩
      have h7 := h1.own
      refine ⟨h7.1, h7.2.imp id fun ⟨k, cap, cur, a1, a2, a3, r⟩ => ⟨k, cap, cur, a1, a2, ?_, r⟩⟩
      rw [hg.block k (Array.getElem?_eq_some_iff.1 a3).1 (fun e => h2 k (by rw [a1]; rfl) (ho k e.symm).1)]
      exact a3
    obtain ⟨v, h6, h7⟩ := hv
    refine ⟨v, h6, fun k hk hm => ?_, fun k hk => ?_, g4⟩
    · rcases List.mem_append.1 hm with h8 | h8
      · exact (h7 k hk).2 (Option.some.inj (Option.mem_toList.1 h8)).symm
      · exact (h7 k hk).1 h8
    · rcases List.mem_append.1 hk with h8 | h8
      · have e : w.heap.size = k := Option.some.inj (Option.mem_toList.1 h8)
        refine ⟨hlt k (Option.mem_toList.1 h8), ?_⟩
        have := h1.row.lt
        omega
      · exact g3 k h8
theorem Own.slmB {α : Type} {w : World} {base : Nat} {e : TypeId} {s : Nat} {enc : α → List Value} {v : Value} {xs : List α} (h : Own w base e s enc v xs) : ∃ A c, v = .slice A xs.length c ∧ xs.length ≤ c ∧ c ≤ 9223372036854775807 ∧ Sl w enc A xs := by
  obtain ⟨A, c, rfl, h1, h2⟩ := h.sl
  refine ⟨A, c, rfl, h1, ?_, h2⟩
  rcases h.2 with ⟨e, _⟩ | ⟨g, c2, cur, e, _, _, _, h5, _⟩
  · injection e with _ _ e3
    subst e3
    decide
  · injection e with _ _ e3
    subst e3
    unfold maxLen at h5
    omega
end Go.Proofs.YtecalodcbkljoaaGreatDoor
