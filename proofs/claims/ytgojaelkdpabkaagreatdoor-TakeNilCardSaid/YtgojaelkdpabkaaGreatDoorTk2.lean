/- One field of an active part stored; what the other functions read of a taker. -/
import Derived.Test.YtgojaelkdpabkaaGreatDoorDrp
namespace Go.Proofs.YtgojaelkdpabkaaGreatDoor
open Go.RowKit
section
variable {α : Type} {w : World} {base : Nat} {e : TypeId} {s : Nat} {enc : α → List Value} {xs : List α}
theorem flatMap_setF (hs : ∀ x, (enc x).length = s) (x : α) (k : Nat) (hk : k < s) (v : Value) : ∀ (xs : List α) (i : Nat) (hi : i < xs.length), (enc xs[i]).set k v = enc x → (xs.flatMap enc).set (i * s + k) v = (xs.set i x).flatMap enc
  | [], i, h, _ => absurd h (Nat.not_lt_zero _)
  | y :: r, 0, _, hx => by
    have hy := hs y
    have hx' : (enc y).set k v = enc x := hx
    rw [List.flatMap_cons, List.set_cons_zero, List.flatMap_cons, Nat.zero_mul, Nat.zero_add, List.set_append_left _ _ (by rw [hy]; exact hk), hx']
  | y :: r, i + 1, h, hx => by
    have hy := hs y
    have ih := flatMap_setF hs x k hk v r i (by simpa using h) (by simpa using hx)
    rw [List.set_cons_succ, List.flatMap_cons, List.flatMap_cons, ← ih, List.set_append_right _ _ (by rw [hy, Nat.succ_mul]; omega), hy]
    congr 2
    rw [Nat.succ_mul]
    omega
/-- One cell of an element stored. -/
theorem Own.setF (hs : ∀ x, (enc x).length = s) {g n c : Nat} (h : Own w base e s enc (.slice (some ⟨g, 0, none⟩) n c) xs) (i : Nat) (hi : i < xs.length) (k : Nat) (hk : k < s) (v : Value) (x : α) (hx : (enc xs[i]).set k v = enc x) :
    w.frozen? ⟨g, i * s + k, none⟩ = false ∧ Own (w.setCell ⟨g, i * s + k, none⟩ v) base e s enc (.slice (some ⟨g, 0, none⟩) n c) (xs.set i x) := by
  rcases h.rowOf with ⟨h1, rfl⟩ | ⟨g2, c2, cs, h1, hb, hr, hc, hm, hl, ht⟩
  · simp at hi
  · cases h1
    refine ⟨hr.fz _, ?_⟩
    have hlen : (xs.set i x).length = xs.length := List.length_set
    have := Own.ofRow (xs := xs.set i x) hs hb (hr.set (i * s + k) v) (by rw [hlen]; exact hc) hm (by rw [List.length_set]; exact hl) (by
      rw [hlen, List.take_set, ht]
      exact flatMap_setF hs x k hk v xs i hi hx)
    rwa [hlen] at this
end
section
variable {b : Nat} {s : Tk} {F : List Nat} {va vk : SlV} {w w' : World}
/-- The address of a list that is not empty. -/
theorem Own.ad0 {e : TypeId} {enc : Pt → List Value} {A : Option Addr} {n c : Nat} {xs : List Pt} (h : Own w 0 e 35 enc (.slice A n c) xs) (hx : xs ≠ []) : ∃ g, A = some ⟨g, 0, none⟩ := by
  rcases h.rowOf with ⟨_, rfl⟩ | ⟨g2, c2, cs, h1, _⟩
  · exact absurd rfl hx
  · cases h1
    exact ⟨g2, rfl⟩
/-- An active part turns in one field. -/
theorem TkR.setF (h : TkR b s F va vk w) {g : Nat} (hg : va.1 = some ⟨g, 0, none⟩) (i : Nat) (hi : i < s.act.length) (k : Nat) (hk : k < 35) (v : Value) (p : Pt) (hp : (cA s.act[i]).set k v = cA p) :
    w.frozen? ⟨g, i * 35 + k, none⟩ = false ∧ TkR b { s with act := s.act.set i p } F va vk (w.setCell ⟨g, i * 35 + k, none⟩ v) ∧ Kp F F w (w.setCell ⟨g, i * 35 + k, none⟩ v) := by
  obtain ⟨A, n, c⟩ := va
  obtain rfl : A = some ⟨g, 0, none⟩ := hg
  have hF := h.aF _ rfl
  have h1 := Own.setF cA_length h.oa i hi k hk v p hp
  have ho : One g w (w.setCell ⟨g, i * 35 + k, none⟩ v) := One.set _ _
  refine ⟨h1.1, ⟨?_, h1.2, ?_, h.bF, h.aF, h.kF⟩, Kp.one ho hF.1⟩
  · exact h.row.same (heap_set_other w g _ v b (fun e => hF.2.1 e.symm))
  · exact h.ok.same fun q e => heap_set_other w g _ v q (fun e2 => by
      obtain ⟨ad, e1, e3⟩ := blk_of e
      exact hF.2.2 ad e1 (e3.trans e2))
end
/-- How many bytes are kept of an article. -/
def gotL (l : List Pt) (x : Id) : Int := match posL l x with | some k => ((l[k]?.getD zA).bytes.size : Int) | none => 0
theorem got_some {l : List Pt} {x : Id} {k : Nat} (h : posL l x = some k) (hk : k < l.length) : gotL l x = (l[k].bytes.size : Int) := by
  unfold gotL
  rw [h]
  show (((l[k]?).getD zA).bytes.size : Int) = _
  rw [List.getElem?_eq_getElem hk]
  rfl
theorem got_none {l : List Pt} {x : Id} (h : posL l x = none) : gotL l x = 0 := by unfold gotL; rw [h]
/-- A taker that nothing turns while other memory is made. -/
theorem TkAt.kp {b : Nat} {s : Tk} {F F' : List Nat} {w w' : World} (h : TkAt b s F w) (_hk : Kp F F' w w') (hs : ∀ k ∈ F, w'.heap[k]? = w.heap[k]?) : TkAt b s F w' := by
  obtain ⟨va, vk, h⟩ := h
  exact ⟨va, vk, h.same hs⟩
end Go.Proofs.YtgojaelkdpabkaaGreatDoor
