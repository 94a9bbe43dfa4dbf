/- Whole variables written and read back. -/
import Derived.Test.YtecalodcbkljoaaGreatDoorMCore
namespace Go.Proofs.YtecalodcbkljoaaGreatDoor
open Go.RowKit
theorem rowOk_cells {w : World} {g n : Nat} (h : rowOk w g n = true) : ∃ cs t, w.heap[g]? = some (.cells cs t (0, 0)) ∧ cs.size = n := by
  unfold rowOk at h
  split at h
  · rename_i cs t hg
    exact ⟨cs, t, hg, by simpa using h⟩
  · cases h
theorem rowOk_lt {w : World} {g n : Nat} (h : rowOk w g n = true) : g < w.heap.size := by
  obtain ⟨cs, t, hg, _⟩ := rowOk_cells h
  exact (Array.getElem?_eq_some_iff.1 hg).1
theorem rowOk_keep {w w' : World} {g n : Nat} (hb : Below w.heap.size w w') (hg : g < w.heap.size) : rowOk w' g n = rowOk w g n := by
  unfold rowOk
  rw [hb.block g hg]
theorem rowOk_kept {w w' : World} {g n : Nat} (h : rowOk w g n = true) (hb : Below w.heap.size w w') : rowOk w' g n = true := (rowOk_keep hb (rowOk_lt h)).trans h
theorem at_setRow {w : World} {g n : Nat} (cs : List Value) (h : rowOk w g n = true) : At (w.setRow g cs.toArray) ⟨g, 0, none⟩ cs := by
  obtain ⟨old, t, hg, _⟩ := rowOk_cells h
  have h2 := setRow_heap w g old cs.toArray t (0, 0) hg
  refine ⟨(Array.getElem?_eq_some_iff.1 h2).1, fun j u hu => ?_⟩
  have hadd : (⟨g, 0, none⟩ : Addr).add j = ⟨g, j, none⟩ := by unfold Addr.add; split <;> simp_all
  rw [hadd]
  unfold World.cell?
  rw [h2]
  simpa using hu
theorem rowOk_setRow {w : World} {g n : Nat} (cs : Array Value) (h : rowOk w g n = true) (hn : cs.size = n) : rowOk (w.setRow g cs) g n = true := by
  obtain ⟨old, t, hg, _⟩ := rowOk_cells h
  unfold rowOk
  rw [setRow_heap w g old cs t (0, 0) hg]
  simpa using hn
theorem Below.setRow {B g : Nat} {w0 w : World} (h : Below B w0 w) (hB : B ≤ g) (cs : Array Value) : Below B w0 (w.setRow g cs) := by
  refine ⟨h.os, h.tape, h.output, ?_, fun k hk => ?_⟩
  · have := h.size
    simpa [World.setRow] using this
  · rw [← h.block k hk]
    simp only [World.setRow, Array.getElem?_modify]
    rw [if_neg (by omega)]
theorem rowOk_setCell (w : World) (a : Addr) (v : Value) (g n : Nat) : rowOk (w.setCell a v) g n = rowOk w g n := by
  unfold rowOk World.setCell
  simp only [Array.getElem?_modify]
  by_cases hb : a.block = g
  · rw [if_pos hb]
    cases hg : w.heap[g]? with
    | none => rfl
    | some o =>
      cases o with
      | cells cs t fr =>
        have hsz : (if a.spot.isSome = true then cs else cs.setIfInBounds a.off v).size = cs.size := by split <;> simp
        simp only [Option.map_some]
        generalize (if a.spot.isSome = true then cs else cs.setIfInBounds a.off v) = cs2 at hsz
        obtain ⟨lo, hi⟩ := fr
        cases lo <;> cases hi <;> simp [hsz]
      | _ => rfl
  · rw [if_neg hb]
theorem add_inj0 {g i j : Nat} (h : (⟨g, 0, none⟩ : Addr).add i = (⟨g, 0, none⟩ : Addr).add j) : i = j := by
  have e : ∀ k, (⟨g, 0, none⟩ : Addr).add k = ⟨g, k, none⟩ := by intro k; unfold Addr.add; split <;> simp_all
  rw [e, e] at h
  simpa using h
theorem At.setCell {w : World} {g k : Nat} {cs : List Value} (h : At w ⟨g, 0, none⟩ cs) (hk : k < cs.length) (v : Value) : At (w.setCell ⟨g, k, none⟩ v) ⟨g, 0, none⟩ (cs.set k v) := by
  have e : ∀ k, (⟨g, 0, none⟩ : Addr).add k = ⟨g, k, none⟩ := by intro k; unfold Addr.add; split <;> simp_all
  refine ⟨by have := h.1; simpa [World.setCell] using this, fun j u hu => ?_⟩
  rw [e]
  by_cases hj : j = k
  · subst hj
    have h1 := h.2 j cs[j] (List.getElem?_eq_getElem hk)
    rw [e] at h1
    rw [World.cell?_setCell_same' _ _ _ (by rw [h1]; rfl)]
    rw [List.getElem?_set_self hk] at hu
    exact hu
  · have hne : (⟨g, k, none⟩ : Addr) ≠ ⟨g, j, none⟩ := by intro h; injection h with _ h; omega
    refine (World.cell?_setCell_other w _ _ v hne).trans ?_
    rw [List.getElem?_set_ne (by omega)] at hu
    have := h.2 j u hu
    rwa [e] at this
theorem rowOk_frozen {w : World} {g n k : Nat} (h : rowOk w g n = true) : w.frozen? ⟨g, k, none⟩ = false := by
  obtain ⟨cs, t, hg, _⟩ := rowOk_cells h
  unfold World.frozen?
  rw [hg]
  simp
theorem results_c1 {P : Program} {fn : Func} {tmps : Array Value} {w : World} {a : Tmp} {t : TypeId} {ad : Addr} {v : Value} (hres : fn.results = #[.cell a t]) (h1 : tmps[a]?.getD undef = .pointer (some ad)) (h2 : (loadVar t ad).run P w = .ok v w) :
    (results fn tmps).run P w = .ok v w := by
  simp [results, hres, h1, h2, asAddr]
theorem results_c2 {P : Program} {fn : Func} {tmps : Array Value} {w : World} {a p : Tmp} {t : TypeId} {ad : Addr} {v x : Value} (hres : fn.results = #[.cell a t, .tmp p]) (h1 : tmps[a]?.getD undef = .pointer (some ad)) (h2 : (loadVar t ad).run P w = .ok v w) (h3 : tmps[p]?.getD undef = x) :
    (results fn tmps).run P w = .ok (.tuple #[v, x]) w := by
  simp [results, hres, h1, h2, h3, asAddr]
theorem results_c3 {P : Program} {fn : Func} {tmps : Array Value} {w : World} {a p q : Tmp} {t : TypeId} {ad : Addr} {v x y : Value} (hres : fn.results = #[.cell a t, .tmp p, .tmp q]) (h1 : tmps[a]?.getD undef = .pointer (some ad)) (h2 : (loadVar t ad).run P w = .ok v w) (h3 : tmps[p]?.getD undef = x) (h4 : tmps[q]?.getD undef = y) :
    (results fn tmps).run P w = .ok (.tuple #[v, x, y]) w := by
  simp [results, hres, h1, h2, h3, h4, asAddr]
theorem cI_c1 (x : Id) : x.1.flatMap (fun b => [cB b]) = cI x := by
  unfold cI
  induction x.1 with
  | nil => rfl
  | cons b r ih => simp [ih]
end Go.Proofs.YtecalodcbkljoaaGreatDoor
