/- Objects: a block of cells as a row of values that are known: what reads, what one store makes of it, what a store of many cells makes of it. -/
import Derived.Test.YtecalodcbkljoaaGreatDoorMCore
import Derived.Laws.IdiomCopy
namespace Go.Proofs.YtecalodcbkljoaaGreatDoor
open Go.RowKit
def Row (w : World) (b : Nat) (cs : List Value) (t : TypeId) : Prop := w.heap[b]? = some (.cells cs.toArray t (0, 0))
section
variable {w w' : World} {b : Nat} {cs : List Value} {t : TypeId}
theorem Row.cell (h : Row w b cs t) (k : Nat) : w.cell? ⟨b, k, none⟩ = cs[k]? := by
  unfold Row at h
  simp [World.cell?, h]
theorem Row.fz (h : Row w b cs t) (k : Nat) : w.frozen? ⟨b, k, none⟩ = false := by
  unfold Row at h
  simp [World.frozen?, h]
theorem Row.lt (h : Row w b cs t) : b < w.heap.size := (Array.getElem?_eq_some_iff.1 h).1
theorem add_off (b k j : Nat) : (⟨b, k, none⟩ : Addr).add j = ⟨b, k + j, none⟩ := by unfold Addr.add; split <;> simp_all
theorem Row.at_ (h : Row w b cs t) {k n : Nat} {ds : List Value} (hd : (cs.drop k).take n = ds) : At w ⟨b, k, none⟩ ds := by
  refine ⟨h.lt, fun j u hu => ?_⟩
  rw [add_off, h.cell]
  rw [← hd, List.getElem?_take] at hu
  split at hu
  · rwa [List.getElem?_drop] at hu
  · cases hu
theorem Row.keep (h : Row w b cs t) (hb : Below w.heap.size w w') : Row w' b cs t := (hb.block b h.lt).trans h
theorem Row.same (h : Row w b cs t) (hb : w'.heap[b]? = w.heap[b]?) : Row w' b cs t := hb.trans h
theorem Row.new (w : World) (cs : List Value) (t : TypeId) : Row (w.alloc (.cells cs.toArray t)) w.heap.size cs t := by
  show (w.heap.push _)[w.heap.size]? = _
  simp
theorem Row.set (h : Row w b cs t) (k : Nat) (v : Value) : Row (w.setCell ⟨b, k, none⟩ v) b (cs.set k v) t := by
  unfold Row at *
  simp only [World.setCell, Array.getElem?_modify, h]
  simp
theorem heap_set_other (w : World) (g k : Nat) (v : Value) (j : Nat) (hj : j ≠ g) : (w.setCell ⟨g, k, none⟩ v).heap[j]? = w.heap[j]? := Below.heap_setCell w _ v j hj
/-- A store of many cells. -/
def stD (w : World) (b k : Nat) (ds : List Value) : World := w.setCells b k ds
theorem heap_setCells_other (b : Nat) : ∀ (ds : List Value) (k : Nat) (w : World) (j : Nat), j ≠ b → (w.setCells b k ds).heap[j]? = w.heap[j]?
  | [], _, _, _, _ => rfl
  | v :: r, k, w, j, h => by
    rw [World.setCells, heap_setCells_other b r (k + 1) _ j h]
    exact heap_set_other w b k v j h
theorem heap_stD_other (w : World) (b k : Nat) (ds : List Value) (j : Nat) (h : j ≠ b) : (stD w b k ds).heap[j]? = w.heap[j]? := heap_setCells_other b ds k w j h
theorem setCells_size (b : Nat) : ∀ (ds : List Value) (k : Nat) (w : World), (w.setCells b k ds).heap.size = w.heap.size
  | [], _, _ => rfl
  | v :: r, k, w => by rw [World.setCells, setCells_size b r (k + 1)]; simp [World.setCell]
theorem setCells_os (b : Nat) : ∀ (ds : List Value) (k : Nat) (w : World), (w.setCells b k ds).os = w.os ∧ (w.setCells b k ds).tape = w.tape ∧ (w.setCells b k ds).output = w.output
  | [], _, _ => ⟨rfl, rfl, rfl⟩
  | v :: r, k, w => by rw [World.setCells]; exact setCells_os b r (k + 1) _
theorem Below.stD {B : Nat} {a w : World} (h : Below B a w) {b : Nat} (hb : B ≤ b) (k : Nat) (ds : List Value) : Below B a (stD w b k ds) := by
  obtain ⟨h1, h2, h3⟩ := setCells_os b ds k w
  exact ⟨h1.trans h.os, h2.trans h.tape, h3.trans h.output, Nat.le_trans h.size (Nat.le_of_eq (setCells_size b ds k w).symm), fun j hj => (heap_stD_other w b k ds j (by omega)).trans (h.block j hj)⟩
theorem Row.sets : ∀ (ds : List Value) (k : Nat) {w : World} {cs : List Value}, Row w b cs t → k + ds.length ≤ cs.length → Row (w.setCells b k ds) b (cs.take k ++ ds ++ cs.drop (k + ds.length)) t
  | [], k, w, cs, h, hk => by
    rw [World.setCells]
    simpa using h
  | v :: r, k, w, cs, h, hk => by
    have hk2 : k + 1 + r.length ≤ (cs.set k v).length := by rw [List.length_set]; simp at hk; omega
    have ih := Row.sets r (k + 1) (h.set k v) hk2
    rw [World.setCells]
    have e : (cs.set k v).take (k + 1) ++ r ++ (cs.set k v).drop (k + 1 + r.length) = cs.take k ++ v :: r ++ cs.drop (k + (v :: r).length) := by
      have hlt : k < cs.length := by simp at hk; omega
      rw [List.take_succ_eq_append_getElem (by rw [List.length_set]; exact hlt), List.getElem_set_self, List.take_set_of_le (Nat.le_refl k), List.drop_set_of_lt (by omega), List.length_cons]
      simp only [List.append_assoc, List.cons_append, List.nil_append]
      rw [show k + 1 + r.length = k + (r.length + 1) by omega]
    rwa [e] at ih
theorem Row.stD (h : Row w b cs t) (k : Nat) (ds : List Value) (hk : k + ds.length ≤ cs.length) : Row (stD w b k ds) b (cs.take k ++ ds ++ cs.drop (k + ds.length)) t := Row.sets ds k h hk
end
/-- Room for n cells from cell k of block b on, none of them frozen. -/
def stOk (w : World) (b k n : Nat) : Bool := match w.heap[b]? with | some (.cells cs _ (0, 0)) => decide (k + n ≤ cs.size) | _ => false
section
variable {P : Program} (w : World)
theorem Row.ok {b : Nat} {cs : List Value} {t : TypeId} (h : Row w b cs t) (k n : Nat) (hk : k + n ≤ cs.length) : stOk w b k n = true := by
  unfold Row at h
  simp only [stOk, h]
  simpa using hk
theorem run_stA_off (ty : TypeId) (b k : Nat) (ds : List Value) (n : Nat) (h : stOk w b k n = true) (hi : (P.info? ty).map (·.size) = some n) (hn : ds.length = n) (h1 : ∀ v ∈ ds, v.oneCell' = true) :
    (stA ty (.pointer (some ⟨b, k, none⟩)) (.agg ds.toArray)).run P w = .ok () (stD w b k ds) := by
  unfold stOk at h
  split at h
  · rename_i cs t hg
    have hk : k + n ≤ cs.size := of_decide_eq_true h
    subst hn
    cases hq : P.info? ty with
    | none => simp [hq] at hi
    | some i =>
      have hs : i.size = ds.length := by simpa [hq] using hi
      have hst := run_storeCells_cells (P := P) b k ds 0 w (fun j hj => by simp [World.cell?, hg]; omega) (fun j hj => by simp [World.frozen?, hg]) h1
      simp only [stA, Instr.storeAt, Instr.sureAddr, Sem.run_bind, Sem.run_pure, Result.andThen_ok]
      unfold storeVar
      have hc : (Value.agg ds.toArray).cells = ds.toArray := rfl
      simp [Sem.run_bind, sizeOf, typeInfo, hq, hs, hst, stD, hc]
  · cases h
end
end Go.Proofs.YtecalodcbkljoaaGreatDoor
