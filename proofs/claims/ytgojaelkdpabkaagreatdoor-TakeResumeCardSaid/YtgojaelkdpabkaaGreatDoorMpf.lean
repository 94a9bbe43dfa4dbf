/- A map from numbers that the call itself made: what is laid into it, and what is found. -/
import Derived.Test.YtgojaelkdpabkaaGreatDoorWk
import Derived.MapKept
namespace Go.Proofs.YtgojaelkdpabkaaGreatDoor
open Go.RowKit Go.MapKept
theorem findNow_snoc (d : TypeDesc) (k : Value) (e : MapEntry) : ∀ (l : List MapEntry) (i : Nat), Instr.findNow d k l i = some none → Instr.findNow d k (l ++ [e]) i = (match Instr.sameNow d k e.key with | some true => some (some (i + l.length, e.val)) | some false => some none | none => none)
  | [], i, _ => by
    simp only [List.nil_append, Instr.findNow, List.length_nil, Nat.add_zero]
    cases Instr.sameNow d k e.key with
    | none => rfl
    | some b => cases b <;> rfl
  | x :: r, i, h => by
    rw [List.cons_append]
    unfold Instr.findNow at h ⊢
    cases hs : Instr.sameNow d k x.key with
    | none => rw [hs] at h; cases h
    | some b =>
      rw [hs] at h
      cases b with
      | true => cases h
      | false =>
        dsimp only at h ⊢
        rw [findNow_snoc d k e r (i + 1) h]
        simp only [List.length_cons, Nat.add_assoc, Nat.add_comm 1]
theorem findNow_hit (d : TypeDesc) (k : Value) (e : MapEntry) (y : Nat × Value) : ∀ (l : List MapEntry) (i : Nat), Instr.findNow d k l i = some (some y) → Instr.findNow d k (l ++ [e]) i = some (some y)
  | [], i, h => by cases h
  | x :: r, i, h => by
    rw [List.cons_append]
    unfold Instr.findNow at h ⊢
    cases hs : Instr.sameNow d k x.key with
    | none => rw [hs] at h; cases h
    | some b =>
      rw [hs] at h
      cases b with
      | true => exact h
      | false => exact findNow_hit d k e y r (i + 1) h
/-- Block r is a map from numbers that answers as f. -/
def FM (w : World) (r : Nat) (f : Int → Option Value) : Prop := ∃ es clock, w.heap[r]? = some (.map es clock) ∧ ∀ v, ∃ y, Instr.findNow (.int .i64) (.int .i64 v) es.toList 0 = some y ∧ y.map (·.2) = f v
theorem under_map : Tryz.prog.underlying 83 = some (.map 3 81) := by kernel_rfl
theorem under_int : Tryz.prog.underlying 3 = some (.int .i64) := by kernel_rfl
theorem FM.made (w : World) : FM (w.alloc (.map #[] 0)) w.heap.size (fun _ => none) := ⟨#[], 0, (heap_alloc w _).1, fun _ => ⟨none, rfl, rfl⟩⟩
theorem FM.keep {w w' : World} {r : Nat} {f : Int → Option Value} (h : FM w r f) (hb : Below w.heap.size w w') : FM w' r f := by
  obtain ⟨es, c, h1, h2⟩ := h
  exact ⟨es, c, by rw [hb.block r (Array.getElem?_eq_some_iff.1 h1).1]; exact h1, h2⟩
theorem FM.ext {w : World} {r : Nat} {f f' : Int → Option Value} (h : FM w r f) (he : ∀ v, f v = f' v) : FM w r f' := by
  obtain ⟨es, c, h1, h2⟩ := h
  exact ⟨es, c, h1, fun v => by rw [← he v]; exact h2 v⟩
theorem FM.lt {w : World} {r : Nat} {f : Int → Option Value} (h : FM w r f) : r < w.heap.size := by
  obtain ⟨es, c, h1, h2⟩ := h
  exact (Array.getElem?_eq_some_iff.1 h1).1
theorem FM.put {w : World} {r : Nat} {f : Int → Option Value} (h : FM w r f) (n : Int) (hn : f n = none) (x : Value) :
    ∃ w', (Instr.mapUpdate 83 (.map (some r)) (.int .i64 n) x).run Tryz.prog w = .ok () w' ∧ FM w' r (fun v => if v = n then some x else f v) ∧ One r w w' := by
  obtain ⟨es, c, h1, h2⟩ := h
  obtain ⟨y, hy, hyf⟩ := h2 n
  rw [hn] at hyf
  obtain rfl : y = none := by cases y with | none => rfl | some z => cases hyf
  have hk : IsKey (.int .i64) (.int .i64 n) := rfl
  refine ⟨{ w with heap := w.heap.setIfInBounds r (.map (es.push { key := .int .i64 n, val := x, born := c }) (c + 1)) }, ?_, ⟨_, _, (heap_set h1).1, fun v => ?_⟩, ⟨rfl, rfl, rfl, by simp, fun k hk hne => (heap_set h1).2 k hne⟩⟩
  · simp [Instr.mapUpdate, run_underlying under_map, Go.MapKept.run_getObj_map h1, Go.MapKept.run_checkKey under_int hk, Go.MapKept.run_findKey under_int hy, Go.MapKept.run_setObj_map _ h1, Result.andThen]
  · rw [Array.toList_push]
    obtain ⟨z, hz, hzf⟩ := h2 v
    cases z with
    | none =>
      rw [findNow_snoc _ _ _ _ _ hz]
      by_cases hv : v = n
      · subst hv
        exact ⟨some (0 + es.toList.length, x), by simp [Instr.sameNow], by simp⟩
      · have hb : (v == n) = false := by simpa using hv
        exact ⟨none, by simp [Instr.sameNow, hb], by show _ = (if v = n then some x else f v); rw [if_neg hv, ← hzf]⟩
    | some z =>
      have hv : v ≠ n := by
        rintro rfl
        rw [hy] at hz
        cases hz
      exact ⟨some z, findNow_hit _ _ _ _ _ _ hz, by show _ = (if v = n then some x else f v); rw [if_neg hv, ← hzf]⟩
theorem FM.look {w : World} {r : Nat} {f : Int → Option Value} (h : FM w r f) (n : Int) (x : Value) (hf : f n = some x) :
    (Instr.lookup 83 (.map (some r)) (.int .i64 n) true).run Tryz.prog w = .ok (.tuple #[x, .bool true]) w := by
  obtain ⟨es, c, h1, h2⟩ := h
  obtain ⟨y, hy, hyf⟩ := h2 n
  rw [hf] at hyf
  have hk : IsKey (.int .i64) (.int .i64 n) := rfl
  cases y with
  | none => cases hyf
  | some z =>
    have hz : z.2 = x := by simpa using hyf
    simp [Instr.lookup, run_underlying under_map, Go.MapKept.run_getObj_map h1, Go.MapKept.run_checkKey under_int hk, Go.MapKept.run_findKey under_int hy, Result.andThen, hz]
theorem FM.look_none {w : World} {r : Nat} {f : Int → Option Value} (h : FM w r f) (n : Int) (hf : f n = none) :
    (Instr.lookup 83 (.map (some r)) (.int .i64 n) true).run Tryz.prog w = .ok (.tuple #[.nilFunc, .bool false]) w := by
  obtain ⟨es, c, h1, h2⟩ := h
  obtain ⟨y, hy, hyf⟩ := h2 n
  rw [hf] at hyf
  have hk : IsKey (.int .i64) (.int .i64 n) := rfl
  have hz : (zeroValue 81).run Tryz.prog w = .ok .nilFunc w := by kernel_rfl
  cases y with
  | none => simp [Instr.lookup, run_underlying under_map, Go.MapKept.run_getObj_map h1, Go.MapKept.run_checkKey under_int hk, Go.MapKept.run_findKey under_int hy, Result.andThen, hz]
  | some z => cases hyf
end Go.Proofs.YtgojaelkdpabkaaGreatDoor
