/- A list of a taker's turned in memory of its own and stored: the states of such a region. -/
import Derived.Test.YtgojaelkdpabkaaGreatDoorDd
namespace Go.Proofs.YtgojaelkdpabkaaGreatDoor
open Go.RowKit
structure OneW {α : Type} (enc : α → List Value) (W : World) (x : α) (g : Nat) (d : Bool) (u : World) : Prop where
  bl : Below W.heap.size W u
  one : d = true → Sl u enc (some ⟨g, 0, none⟩) [x] ∧ W.heap.size ≤ g
theorem OneW.read {α : Type} {enc : α → List Value} {W : World} {x : α} {g : Nat} {d : Bool} {u u' : World} (h : OneW enc W x g d u) (hb : Below u.heap.size u u') : OneW enc W x g d u' := ⟨Below.step h.bl hb, fun hd => ⟨(h.one hd).1.keep hb, (h.one hd).2⟩⟩
theorem TkR.kp_out {b : Nat} {s : Tk} {F : List Nat} {va vk : SlV} {w : World} (h : TkR b s F va vk w) {k : Nat} (hk : k ∉ F) : (Value.slice va.1 va.2.1 va.2.2).ownBlock ≠ some k ∧ (Value.slice vk.1 vk.2.1 vk.2.2).ownBlock ≠ some k ∧ b ≠ k :=
  ⟨fun e => by obtain ⟨ad, h1, h2⟩ := blk_of e; exact hk (h2 ▸ (h.aF ad h1).1), fun e => by obtain ⟨ad, h1, h2⟩ := blk_of e; exact hk (h2 ▸ (h.kF ad h1).1), fun e => hk (e ▸ h.bF)⟩
theorem Row.kp {w w' : World} {F F' : List Nat} {g : Nat} {cs : List Value} {t : TypeId} (h : Row w g cs t) (hk : Kp F F' w w') (hg : g ∉ F) : Row w' g cs t := h.same ((hk.out g h.lt hg).2)
/-- Nothing done; the new list made; the field stored. -/
def WK (b : Nat) (s : Tk) (F : List Nat) (va vk : SlV) (l' : List Pt) (W : World) (v1 : SlV) (u : World) : Bool → Bool → Prop
  | false, _ => Below W.heap.size W u
  | true, false => W.grownBy u (Value.slice vk.1 vk.2.1 vk.2.2).ownBlock ∧ Own u 0 86 35 cA (.slice v1.1 v1.2.1 v1.2.2) l' ∧ ∀ ad, v1.1 = some ad → (∃ ad0, vk.1 = some ad0 ∧ ad0.block = ad.block) ∨ W.heap.size ≤ ad.block
  | true, true => TkR b { s with kept := l' } (blkL v1 ++ F) va v1 u ∧ Kp F (blkL v1 ++ F) W u
section
variable {b : Nat} {s : Tk} {F : List Nat} {va vk : SlV} {l' : List Pt} {W : World} {v1 : SlV} {u u' : World} {d1 d2 : Bool}
theorem WK.read (h : WK b s F va vk l' W v1 u d1 d2) (hb : Below u.heap.size u u') : WK b s F va vk l' W v1 u' d1 d2 := by
  cases d1 with
  | false => exact Below.step h hb
  | true =>
    cases d2 with
    | false => exact ⟨grown_below h.1 hb, h.2.1.keep hb, h.2.2⟩
    | true => exact ⟨h.1.keep hb, h.2.trans (Kp.of_below hb)⟩
theorem WK.size (h : WK b s F va vk l' W v1 u d1 d2) : W.heap.size ≤ u.heap.size := by
  cases d1 with
  | false => exact Below.size h
  | true =>
    cases d2 with
    | false => exact World.grownBy.size h.1
    | true => exact Kp.size h.2
theorem WK.same (h : WK b s F va vk l' W v1 u d1 d2) (hT : TkR b s F va vk W) {k : Nat} (hk : k < W.heap.size) (hF : k ∉ F) : u.heap[k]? = W.heap[k]? := by
  cases d1 with
  | false => exact Below.block h k hk
  | true =>
    cases d2 with
    | false => exact World.grownBy.block h.1 k hk (fun e => (hT.kp_out hF).2.1 e.symm)
    | true => exact (h.2.out k hk hF).2
theorem WK.row (h : WK b s F va vk l' W v1 u d1 d2) (hT : TkR b s F va vk W) {g : Nat} {cs : List Value} {t : TypeId} (hr : Row W g cs t) (hF : g ∉ F) : Row u g cs t := hr.same (h.same hT hr.lt hF)
theorem WK.grow (h : Below W.heap.size W u) {w2 : World} (ho : Own w2 0 86 35 cA (.slice v1.1 v1.2.1 v1.2.2) l') (hg : u.grownBy w2 (Value.slice vk.1 vk.2.1 vk.2.2).ownBlock) (hat : (.slice v1.1 v1.2.1 v1.2.2 : Value).ownBlock = (Value.slice vk.1 vk.2.1 vk.2.2).ownBlock ∨ (.slice v1.1 v1.2.1 v1.2.2 : Value).ownBlock = some u.heap.size) : WK b s F va vk l' W v1 w2 true false := by
  refine ⟨below_grown h hg, ho, fun ad e => ?_⟩
  rcases hat with h1 | h1
  · rw [of_blk e] at h1
    obtain ⟨ad0, e1, e2⟩ := blk_of h1.symm
    exact Or.inl ⟨ad0, e1, e2⟩
  · rw [of_blk e] at h1
    have e3 : ad.block = u.heap.size := by simpa using h1
    exact Or.inr (by rw [e3]; exact h.size)
theorem WK.put (h : WK b s F va vk l' W v1 u true false) (hT : TkR b s F va vk W) : u.frozen? ⟨b, 3, none⟩ = false ∧ u.cell? ⟨b, 3, none⟩ = some (.slice vk.1 vk.2.1 vk.2.2) ∧ WK b s F va vk l' W v1 (u.setCell ⟨b, 3, none⟩ (.slice v1.1 v1.2.1 v1.2.2)) true true := by
  have hrb : Row u b (cT ⟨s.win, s.opn, va, vk⟩) 80 := hT.row.same (h.1.block b hT.blt (fun e => by
    obtain ⟨ad, h1, h2⟩ := blk_of e.symm
    exact (hT.kF ad h1).2 h2))
  exact ⟨hrb.fz 3, hrb.cell 3, hT.setK h.1 h.2.1 h.2.2⟩
end
/-- Nothing done; the new list made; the field stored. -/
def WA (b : Nat) (s : Tk) (F : List Nat) (va vk : SlV) (l' : List Pt) (W : World) (v1 : SlV) (u : World) : Bool → Bool → Prop
  | false, _ => Below W.heap.size W u
  | true, false => W.grownBy u (Value.slice va.1 va.2.1 va.2.2).ownBlock ∧ Own u 0 86 35 cA (.slice v1.1 v1.2.1 v1.2.2) l' ∧ ∀ ad, v1.1 = some ad → (∃ ad0, va.1 = some ad0 ∧ ad0.block = ad.block) ∨ W.heap.size ≤ ad.block
  | true, true => TkR b { s with act := l' } (blkL v1 ++ F) v1 vk u ∧ Kp F (blkL v1 ++ F) W u
section
variable {b : Nat} {s : Tk} {F : List Nat} {va vk : SlV} {l' : List Pt} {W : World} {v1 : SlV} {u u' : World} {d1 d2 : Bool}
theorem WA.read (h : WA b s F va vk l' W v1 u d1 d2) (hb : Below u.heap.size u u') : WA b s F va vk l' W v1 u' d1 d2 := by
  cases d1 with
  | false => exact Below.step h hb
  | true =>
    cases d2 with
    | false => exact ⟨grown_below h.1 hb, h.2.1.keep hb, h.2.2⟩
    | true => exact ⟨h.1.keep hb, h.2.trans (Kp.of_below hb)⟩
theorem WA.size (h : WA b s F va vk l' W v1 u d1 d2) : W.heap.size ≤ u.heap.size := by
  cases d1 with
  | false => exact Below.size h
  | true =>
    cases d2 with
    | false => exact World.grownBy.size h.1
    | true => exact Kp.size h.2
theorem WA.same (h : WA b s F va vk l' W v1 u d1 d2) (hT : TkR b s F va vk W) {k : Nat} (hk : k < W.heap.size) (hF : k ∉ F) : u.heap[k]? = W.heap[k]? := by
  cases d1 with
  | false => exact Below.block h k hk
  | true =>
    cases d2 with
    | false => exact World.grownBy.block h.1 k hk (fun e => (hT.kp_out hF).1 e.symm)
    | true => exact (h.2.out k hk hF).2
theorem WA.row (h : WA b s F va vk l' W v1 u d1 d2) (hT : TkR b s F va vk W) {g : Nat} {cs : List Value} {t : TypeId} (hr : Row W g cs t) (hF : g ∉ F) : Row u g cs t := hr.same (h.same hT hr.lt hF)
theorem WA.grow (h : Below W.heap.size W u) {w2 : World} (ho : Own w2 0 86 35 cA (.slice v1.1 v1.2.1 v1.2.2) l') (hg : u.grownBy w2 (Value.slice va.1 va.2.1 va.2.2).ownBlock) (hat : (.slice v1.1 v1.2.1 v1.2.2 : Value).ownBlock = (Value.slice va.1 va.2.1 va.2.2).ownBlock ∨ (.slice v1.1 v1.2.1 v1.2.2 : Value).ownBlock = some u.heap.size) : WA b s F va vk l' W v1 w2 true false := by
  refine ⟨below_grown h hg, ho, fun ad e => ?_⟩
  rcases hat with h1 | h1
  · rw [of_blk e] at h1
    obtain ⟨ad0, e1, e2⟩ := blk_of h1.symm
    exact Or.inl ⟨ad0, e1, e2⟩
  · rw [of_blk e] at h1
    have e3 : ad.block = u.heap.size := by simpa using h1
    exact Or.inr (by rw [e3]; exact h.size)
theorem WA.put (h : WA b s F va vk l' W v1 u true false) (hT : TkR b s F va vk W) : u.frozen? ⟨b, 2, none⟩ = false ∧ u.cell? ⟨b, 2, none⟩ = some (.slice va.1 va.2.1 va.2.2) ∧ WA b s F va vk l' W v1 (u.setCell ⟨b, 2, none⟩ (.slice v1.1 v1.2.1 v1.2.2)) true true := by
  have hrb : Row u b (cT ⟨s.win, s.opn, va, vk⟩) 80 := hT.row.same (h.1.block b hT.blt (fun e => by
    obtain ⟨ad, h1, h2⟩ := blk_of e.symm
    exact (hT.aF ad h1).2.1 h2))
  exact ⟨hrb.fz 2, hrb.cell 2, hT.setA h.1 h.2.1 h.2.2⟩
end
/-- The slice with one new part, and the list behind it. -/
structure APW (b : Nat) (s : Tk) (F : List Nat) (va vk : SlV) (p : Pt) (W : World) (σ : Nat × SlV) (d1 d2 d3 : Bool) (u : World) : Prop where
  one : d1 = true → d2 = false → Sl u cA (some ⟨σ.1, 0, none⟩) [p]
  st : WA b s F va vk (s.act ++ [p]) W σ.2 u d2 d3
theorem APW.read {b : Nat} {s : Tk} {F : List Nat} {va vk : SlV} {p : Pt} {W : World} {σ : Nat × SlV} {d1 d2 d3 : Bool} {u u' : World} (h : APW b s F va vk p W σ d1 d2 d3 u) (hb : Below u.heap.size u u') : APW b s F va vk p W σ d1 d2 d3 u' := ⟨fun h1 h2 => (h.one h1 h2).keep hb, h.st.read hb⟩
end Go.Proofs.YtgojaelkdpabkaaGreatDoor
