/- A list of items copied: slices.Clone; slices of slices. -/
import Derived.Test.YtecalodcbkljoaaGreatDoorMIdx
import Derived.Test.YtecalodcbkljoaaGreatDoorMPck
namespace Go.Proofs.YtecalodcbkljoaaGreatDoor
open Go.RowKit
@[go_sem] theorem run_bs22_0 (w : World) : (bsA 22 0 #[]).run Tryz.prog w = .ok (.slice (some ⟨w.heap.size, 0, none⟩) 0 0) (w.alloc (.cells #[] 64)) := by
  obtain ⟨i, z, h1, h2, h3⟩ := info_of rowXX
  exact run_bsA (P := Tryz.prog) w vX 22 64 i z 33 Tryz.underlying22 h1 h2 h3 (fun x => by show (aX x).size = 33; simp [aX, cX_length]) [] (by simp)
theorem eql_nil {P : Program} (w : World) (t e : TypeId) (a : Option Addr) (n c : Nat) (h : P.underlying t = some (.slice e)) : (binOp .eql t (.slice a n c) (.slice none 0 0)).run P w = .ok (.bool a.isNone) w := by
  simp only [binOp]
  simp [Op.equal, Op.maxDepth, Lib.run_equalIn_slice_nil w 9999 t e a n c 0 0 h]
@[go_sem] theorem eqlX_nil (w : World) (a : Option Addr) (n c : Nat) : (binOp .eql 22 (.slice a n c) (.slice none 0 0)).run Tryz.prog w = .ok (.bool a.isNone) w := eql_nil w _ _ a n c underXs
theorem Own.new0 {α : Type} (w : World) (base : Nat) (e : TypeId) (s : Nat) (enc : α → List Value) (hs : ∀ x, (enc x).length = s) (hb : base ≤ w.heap.size) : Own (w.alloc (.cells #[] e)) base e s enc (.slice (some ⟨w.heap.size, 0, none⟩) 0 0) ([] : List α) := Own.lit hs [] hb (by simp)
set_option maxRecDepth 100000 in
set_option maxHeartbeats 1600000 in
theorem clone_x (A : Option Addr) (n c : Nat) (xs : List It) (w : World) (hx : xs.length = n) (sx : Sl w cX A xs) (hn : n ≤ 1000000) : Calls Tryz.prog 51 #[.slice A n c] w fun e w' => ∃ A' c', e = .returned (.slice A' n c') ∧ Own w' w.heap.size 64 33 cX (.slice A' n c') xs ∧ Below w.heap.size w w' := by
  cases A with
  | none =>
    have he : xs = [] := by
      cases xs with
      | nil => rfl
      | cons a r =>
        obtain ⟨ad, h, _⟩ := sx (by simp)
        cases h
    subst he
    obtain rfl : n = 0 := hx.symm
    go_enter Tryz.func51, Tryz.ntmps51
    go_wp2
    go_ret
    exact ⟨none, 0, rfl, Own.nil _ _ _ _ _, Below.refl _ _⟩
  | some ad =>
    have HX := Lib.hid (And.intro hx (And.intro sx hn))
    clear hx sx
    have hnew := Own.new0 (α := It) w w.heap.size 64 33 cX cX_length (Nat.le_refl _)
    have HL := Lib.hid hnew
    clear hnew
    go_enter Tryz.func51, Tryz.ntmps51
    go_wp2_with (at_builtin; refine wpList_append_sl _ rfl (.tmp 5) (.tmp 6) 22 rfl w.heap.size 64 33 48 cX underXs rowXX (by decide) cX_length cX_one (.slice (some ⟨w.heap.size, 0, none⟩) 0 0) [] rfl HL.out (some ad) n c xs HX.out.1 rfl (HX.out.2.1.keep (below_alloc w _)) (by have := HX.out.2.2; simp; omega) (by have := HX.out.2.2; simp; omega) (below_alloc w _).size ?_)
    intro v2 w2 ho2 hg
    have hb2 := Own.grew HL.out hg (below_alloc w _) (Nat.le_refl _) (below_alloc w _).size
    have ho3 : Own w2 w.heap.size 64 33 cX v2 xs := by simpa using ho2
    obtain ⟨A2, c2, rfl, _, _⟩ := ho3.sl
    rw [HX.out.1] at ho3 ⊢
    have HO := Lib.hid (And.intro ho3 hb2)
    clear ho2 ho3 hg hb2
    go_wp2
    go_ret
    exact ⟨A2, c2, rfl, HO.out.1, HO.out.2⟩
/-- A slice as a value, its cells; what a list of slices holds. -/
abbrev SlV := Option Addr × Nat × Nat
def cSv (q : SlV) : List Value := [.slice q.1 q.2.1 q.2.2]
theorem cSv_length (q : SlV) : (cSv q).length = 1 := rfl
theorem cSv_one (q : SlV) : ∀ u ∈ cSv q, u.oneCell' = true := by
  intro u hu
  simp only [cSv, List.mem_cons, List.not_mem_nil, or_false] at hu
  subst hu
  rfl
theorem sl_newS (w : World) (q : SlV) (ty : TypeId) : Sl (w.alloc (.cells #[.slice q.1 q.2.1 q.2.2] ty)) cSv (some ⟨w.heap.size, 0, none⟩) [q] := by
  refine fun _ => ⟨_, rfl, ?_⟩
  exact at_new w (cSv q) ty _ rfl
/-- The lists that slices read as. -/
def Reads (w : World) (qs : List SlV) (ls : List (List It)) : Prop := qs.length = ls.length ∧ ∀ (i : Nat) (q : SlV) (l : List It), qs[i]? = some q → ls[i]? = some l → q.2.1 = l.length ∧ Sl w cX q.1 l
/-- A list of slices of the call's own, each of which lies elsewhere. -/
structure LsI (w : World) (B : Nat) (T : TypeId) (v : Value) (qs : List SlV) (ls : List (List It)) : Prop where
  own : Own w B T 1 cSv v qs
  reads : Reads w qs ls
  apart : ∀ q ∈ qs, ∀ ad, q.1 = some ad → ad.block < w.heap.size ∧ v.ownBlock ≠ some ad.block
theorem Reads.keep {w w' : World} {qs : List SlV} {ls : List (List It)} (h : Reads w qs ls) (hb : Below w.heap.size w w') : Reads w' qs ls := ⟨h.1, fun i q l h1 h2 => ⟨(h.2 i q l h1 h2).1, (h.2 i q l h1 h2).2.keep hb⟩⟩
theorem LsI.nil (w : World) (B : Nat) (T : TypeId) : LsI w B T (.slice none 0 0) [] [] := ⟨Own.nil _ _ _ _ _, ⟨rfl, fun i q l h => by simp at h⟩, fun q hq => by cases hq⟩
theorem LsI.keep {w w' : World} {B : Nat} {T : TypeId} {v : Value} {qs : List SlV} {ls : List (List It)} (h : LsI w B T v qs ls) (hb : Below w.heap.size w w') : LsI w' B T v qs ls :=
  ⟨h.own.keep hb, h.reads.keep hb, fun q hq ad e => ⟨Nat.lt_of_lt_of_le (h.apart q hq ad e).1 hb.size, (h.apart q hq ad e).2⟩⟩
theorem Sl.beside {α : Type} {w w' : World} {enc : α → List Value} {A : Option Addr} {xs : List α} {o : Option Nat} (h : Sl w enc A xs) (hg : w.grownBy w' o) (ha : ∀ ad, A = some ad → ad.block < w.heap.size ∧ o ≠ some ad.block) : Sl w' enc A xs := by
  intro hx
  obtain ⟨ad, rfl, h1, h2⟩ := h hx
  obtain ⟨h3, h4⟩ := ha ad rfl
  refine ⟨ad, rfl, Nat.lt_of_lt_of_le h3 hg.size, fun j u hu => ?_⟩
  rw [← h2 j u hu]
  refine World.cell?_of_block ?_
  rw [block_of_add]
  exact hg.block ad.block h3 (fun e => h4 e.symm)
/-- A slice appended. -/
theorem LsI.push {w w' : World} {B : Nat} {T : TypeId} {v v' : Value} {qs : List SlV} {ls : List (List It)} {q : SlV} {l : List It} (h : LsI w B T v qs ls) (hq : q.2.1 = l.length ∧ Sl w cX q.1 l) (hd : ∀ ad, q.1 = some ad → ad.block < w.heap.size ∧ v.ownBlock ≠ some ad.block)
    (ho : Own w' B T 1 cSv v' (qs ++ [q])) (hg : w.grownBy w' v.ownBlock) (hat : v'.ownBlock = v.ownBlock ∨ v'.ownBlock = some w.heap.size) : LsI w' B T v' (qs ++ [q]) (ls ++ [l]) := by
  have hd2 : ∀ r ∈ qs ++ [q], ∀ ad, r.1 = some ad → ad.block < w.heap.size ∧ v.ownBlock ≠ some ad.block := by
    intro r hr ad e
    rcases List.mem_append.1 hr with hr | hr
    · exact h.apart r hr ad e
    · obtain rfl := List.mem_singleton.1 hr
      exact hd ad e
  refine ⟨ho, ⟨by rw [List.length_append, List.length_append, h.reads.1]; rfl, fun i r m h1 h2 => ?_⟩, fun r hr ad e => ?_⟩
  · have key : r.2.1 = m.length ∧ Sl w cX r.1 m := by
      by_cases hi : i < qs.length
      · rw [List.getElem?_append_left hi] at h1
        rw [List.getElem?_append_left (by rw [← h.reads.1]; exact hi)] at h2
        exact h.reads.2 i r m h1 h2
      · have hi2 : i = qs.length := by
          have := (List.getElem?_eq_some_iff.1 h1).1
          rw [List.length_append, List.length_singleton] at this
          omega
        subst hi2
        rw [List.getElem?_append_right (Nat.le_refl _), Nat.sub_self] at h1
        rw [h.reads.1, List.getElem?_append_right (Nat.le_refl _), Nat.sub_self] at h2
        obtain rfl : q = r := Option.some.inj h1
        obtain rfl : l = m := Option.some.inj h2
        exact hq
    exact ⟨key.1, key.2.beside hg (hd2 r (List.mem_of_getElem? h1))⟩
  · obtain ⟨h1, h2⟩ := hd2 r hr ad e
    refine ⟨Nat.lt_of_lt_of_le h1 hg.size, ?_⟩
    rcases hat with e2 | e2
    · rw [e2]
      exact h2
    · rw [e2]
      intro e3
      have := Option.some.inj e3
      omega
end Go.Proofs.YtecalodcbkljoaaGreatDoor
