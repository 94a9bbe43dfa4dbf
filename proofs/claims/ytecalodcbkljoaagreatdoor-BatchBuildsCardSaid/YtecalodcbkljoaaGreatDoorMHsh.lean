/- A Hash as a row of cells; what it holds of the bytes that were written. -/
import Derived.Test.YtecalodcbkljoaaGreatDoorMOne
import Derived.Test.YtecalodcbkljoaaGreatDoorMDgs
namespace Go.Proofs.YtecalodcbkljoaaGreatDoor
open Go.RowKit
/-- A Hash to which the bytes l have been written. -/
structure HsW (l : List UInt8) (x : Hs) : Prop where
  len : x.len = (l.length : Int)
  st : l ≠ [] → x.st = shaF l
  bk : x.bk.1.take (l.length % 64) = l.drop (64 * (l.length / 64))
/-- The same, its state laid. -/
structure HsOk (l : List UInt8) (x : Hs) : Prop where
  len : x.len = (l.length : Int)
  st : x.st = shaF l
  bk : x.bk.1.take (l.length % 64) = l.drop (64 * (l.length / 64))
theorem HsW.new : HsW [] zS := ⟨rfl, fun h => absurd rfl h, rfl⟩
theorem HsOk.w {l : List UInt8} {x : Hs} (h : HsOk l x) : HsW l x := ⟨h.len, fun _ => h.st, h.bk⟩
theorem shaF_nil : shaF [] = iniV := rfl
theorem HsW.ok {l : List UInt8} {x : Hs} (h : HsW l x) (hl : l ≠ []) : HsOk l x := ⟨h.len, h.st hl, h.bk⟩
theorem HsW.ini {x : Hs} (h : HsW [] x) : HsOk [] { x with st := iniV } := ⟨h.len, rfl, h.bk⟩
/-- Bytes put into a block. -/
def bkPut (bk : B64) (r : Nat) (ys : List UInt8) (h : r + ys.length ≤ 64) : B64 :=
  ⟨bk.1.take r ++ ys ++ bk.1.drop (r + ys.length), by
    rw [List.length_append, List.length_append, List.length_take, List.length_drop, bk.2]
    omega⟩
theorem cS_len (x : Hs) (n : Int) : (cS x).set 72 (.int .i64 n) = cS { x with len := n } := by
  unfold cS
  rw [List.set_append_right _ _ (by rw [cV_length]; omega), cV_length, List.set_append_right _ _ (by rw [List.length_map, x.bk.2]; omega), List.length_map, x.bk.2]
  rfl
theorem cS_st (x : Hs) (v : Vs) : (cS x).take 0 ++ cV v ++ (cS x).drop (0 + (cV v).length) = cS { x with st := v } := by
  unfold cS
  rw [cV_length, Nat.zero_add, List.drop_left' (cV_length x.st)]
  rfl
theorem cS_bk (x : Hs) (r : Nat) (ys : List UInt8) (h : r + ys.length ≤ 64) : (cS x).take (8 + r) ++ ys.map cB ++ (cS x).drop (8 + r + (ys.map cB).length) = cS { x with bk := bkPut x.bk r ys h } := by
  have e1 : (cS x).take (8 + r) = cV x.st ++ (x.bk.1.take r).map cB := by
    unfold cS
    rw [← cV_length x.st, List.take_length_add_append, List.take_append_of_le_length (by rw [List.length_map, x.bk.2]; omega), List.map_take]
  have e2 : (cS x).drop (8 + r + (ys.map cB).length) = (x.bk.1.drop (r + ys.length)).map cB ++ [.int .i64 x.len] := by
    unfold cS
    rw [List.length_map, Nat.add_assoc, ← cV_length x.st, ← List.drop_drop, List.drop_left, List.drop_append_of_le_length (by rw [List.length_map, x.bk.2]; omega), List.map_drop]
  rw [e1, e2]
  unfold cS bkPut
  simp
theorem cS_72 (x : Hs) : (cS x)[72]? = some (.int .i64 x.len) := by
  unfold cS
  rw [List.getElem?_append_right (by rw [cV_length]; omega), cV_length, List.getElem?_append_right (by rw [List.length_map, x.bk.2]; omega), List.length_map, x.bk.2]
  rfl
theorem cS_head (x : Hs) : ((cS x).drop 0).take 8 = cV x.st := by
  unfold cS
  rw [List.drop_zero, List.take_left' (cV_length x.st)]
theorem cS_block (x : Hs) : ((cS x).drop 8).take 64 = x.bk.1.map cB := by
  unfold cS
  rw [List.drop_left' (cV_length x.st), List.take_left' (by rw [List.length_map, x.bk.2])]
section
variable {w : World} {g : Nat} {x : Hs} {t : TypeId}
theorem rowS (h : Row w g (cS x) t) : okA w ⟨g, 0, none⟩ 73 = true ∧ rdA w ⟨g, 0, none⟩ 73 = vS x ∧ rowOk w g 73 = true := by
  have hat := h.at_ (k := 0) (n := 73) (ds := cS x) (by rw [List.drop_zero, List.take_of_length_le (by rw [cS_length]; omega)])
  have h1 := hat.ok
  have h2 := hat.rd
  rw [cS_length] at h1 h2
  refine ⟨h1, h2, ?_⟩
  have hc := cS_length x
  unfold Row at h
  unfold rowOk
  rw [h]
  simpa using hc
theorem rowS_st (h : Row w g (cS x) t) : okA w ⟨g, 0, none⟩ 8 = true ∧ rdA w ⟨g, 0, none⟩ 8 = vV x.st := by
  have hat := h.at_ (cS_head x)
  exact ⟨hat.ok, hat.rd⟩
theorem rowS_bk (h : Row w g (cS x) t) : okA w ⟨g, 8, none⟩ 64 = true ∧ rdA w ⟨g, 8, none⟩ 64 = vB64 x.bk := by
  have hat := h.at_ (cS_block x)
  have h1 := hat.ok
  have h2 := hat.rd
  rw [List.length_map, x.bk.2] at h1 h2
  exact ⟨h1, h2⟩
theorem rowS_no (h : Row w g (cS x) t) : rowOk w g 8 = false := by
  have hc := cS_length x
  unfold Row at h
  unfold rowOk
  rw [h]
  simp [hc]
/-- A state stored into a Hash. -/
theorem rowS_store (h : Row w g (cS x) t) (v : Vs) : (stB 156 (.pointer (some ⟨g, 0, none⟩)) (vV v)).run Tryz.prog w = .ok () (stD w g 0 (cV v)) ∧ Row (stD w g 0 (cV v)) g (cS { x with st := v }) t := by
  have h2 := h.stD 0 (cV v) (by rw [cV_length, cS_length]; omega)
  rw [cS_st] at h2
  exact ⟨run_stA_off w 156 g 0 (cV v) 8 (Row.ok w h 0 8 (by rw [cS_length]; omega)) size156 (cV_length v) (cV_one v), h2⟩
/-- Bytes copied into a Hash's block. -/
theorem rowS_copy (h : Row w g (cS x) t) (r : Nat) {A : Option Addr} {ms : List UInt8} {n c : Nat} (hn : ms.length = n) (hsl : Sl w c1 A ms) (hne : ms ≠ []) (hr : r < 64) :
    (Builtin.copy_ #[47, 47] 3 #[.slice (some ⟨g, 8 + r, none⟩) (64 - r) (64 - r), .slice A n c]).run Tryz.prog w = .ok (.int .i64 ((min n (64 - r) : Nat) : Int)) (w.setCells g (8 + r) ((ms.take (64 - r)).map cB)) ∧
    Row (w.setCells g (8 + r) ((ms.take (64 - r)).map cB)) g (cS { x with bk := bkPut x.bk r (ms.take (64 - r)) (by rw [List.length_take]; omega) }) t := by
  obtain ⟨ad, rfl, hat⟩ := hsl hne
  rw [flat_c1] at hat
  have hlen : ((ms.take (64 - r)).map cB).length = min n (64 - r) := by rw [List.length_map, List.length_take, hn, Nat.min_comm]
  have h2 := h.sets ((ms.take (64 - r)).map cB) (8 + r) (by rw [hlen, cS_length]; omega)
  rw [cS_bk x r (ms.take (64 - r)) (by rw [List.length_take]; omega)] at h2
  refine ⟨?_, h2⟩
  have hcells : ∀ j, j < 73 → (w.cell? ⟨g, j, none⟩).isSome = true := by
    intro j hj
    rw [h.cell, List.getElem?_eq_getElem (by rw [cS_length]; exact hj)]
    rfl
  have := run_copy_cells (P := Tryz.prog) w 47 47 3 5 g (8 + r) (64 - r) (64 - r) ad n c ((ms.take (64 - r)).map cB) underBs sizeU8 hlen
    (fun j v hj => hat.2 j v (by
      rw [List.getElem?_map, List.getElem?_take] at hj
      rw [List.getElem?_map]
      split at hj
      · exact hj
      · cases hj))
    (fun j hj => hcells _ (by rw [hlen] at hj; omega)) (fun j _ => h.fz _) (bytes_one _)
  rw [hlen] at this
  exact this
end
/-- What stands in the Hash behind a piece that does not fill the block. -/
theorem HsOk.part {l ys : List UInt8} {x : Hs} (h : HsOk l x) (hr : l.length % 64 + ys.length < 64) : HsOk (l ++ ys) { x with bk := bkPut x.bk (l.length % 64) ys (by omega), len := ((l ++ ys).length : Int) } := by
  have e1 : (l ++ ys).length / 64 = l.length / 64 := by rw [List.length_append]; omega
  have e2 : (l ++ ys).length % 64 = l.length % 64 + ys.length := by rw [List.length_append]; omega
  refine ⟨rfl, ?_, ?_⟩
  · rw [shaF_rest l ys (by rw [← List.length_append]; exact e1)]
    exact h.st
  · rw [e1, e2]
    unfold bkPut
    simp only []
    have hl : (x.bk.1.take (l.length % 64) ++ ys).length = l.length % 64 + ys.length := by rw [List.length_append, List.length_take, x.bk.2]; omega
    rw [List.take_left' hl, h.bk, List.drop_append_of_le_length (by omega)]
/-- What stands in the Hash behind a piece that fills the block. -/
theorem HsOk.full {l ys : List UInt8} {x : Hs} (h : HsOk l x) (hr : l.length % 64 + ys.length = 64) :
    HsOk (l ++ ys) { x with st := proc x.st (mW (blkW (bkPut x.bk (l.length % 64) ys (by omega)))), bk := bkPut x.bk (l.length % 64) ys (by omega), len := ((l ++ ys).length : Int) } := by
  have e0 : (l ++ ys).length = 64 * (l.length / 64 + 1) := by rw [List.length_append]; omega
  have e1 : (l ++ ys).length % 64 = 0 := by rw [e0]; omega
  have e3 : (l ++ ys).length / 64 = l.length / 64 + 1 := by rw [e0]; omega
  have hbk : (bkPut x.bk (l.length % 64) ys (by omega)).1 = (l ++ ys).drop (64 * (l.length / 64)) := by
    unfold bkPut
    simp only []
    rw [hr, List.drop_eq_nil_of_le (by rw [x.bk.2]; exact Nat.le_refl _), List.append_nil, h.bk, List.drop_append_of_le_length (by omega)]
  refine ⟨rfl, ?_, ?_⟩
  · rw [shaF_block (l ++ ys) (l.length / 64) e0, List.take_append_of_le_length (by omega)]
    have e4 : shaF (l.take (64 * (l.length / 64))) = shaF l := by
      have h1 := shaF_rest (l.take (64 * (l.length / 64))) (l.drop (64 * (l.length / 64))) (by rw [← List.length_append, List.take_append_drop, List.length_take]; omega)
      rw [List.take_append_drop] at h1
      exact h1.symm
    rw [e4, h.st]
    refine proc_congr _ _ _ fun t ht => ?_
    rw [blkW_be _ t ht, hbk]
  · rw [e1, e3]
    rw [List.take_zero, List.drop_eq_nil_of_le (by rw [e0]; exact Nat.le_refl _)]
end Go.Proofs.YtecalodcbkljoaaGreatDoor
