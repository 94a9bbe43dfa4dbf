/- Slices of the call's own: one element stored, the slice cut, what lies behind it cleared. -/
import Derived.Test.YtgojaelkdpabkaaGreatDoorTyT
import Derived.Lib.SliceRun
namespace Go.Proofs.YtgojaelkdpabkaaGreatDoor
open Go.RowKit
section
variable {α : Type} {w : World} {base : Nat} {e : TypeId} {s : Nat} {enc : α → List Value} {v : Value} {xs : List α}
theorem Own.rowOf (h : Own w base e s enc v xs) : (v = .slice none 0 0 ∧ xs = []) ∨ ∃ g c cs, v = .slice (some ⟨g, 0, none⟩) xs.length c ∧ base ≤ g ∧ Row w g cs e ∧ xs.length ≤ c ∧ c ≤ maxLen ∧ cs.length = c * s ∧ cs.take (xs.length * s) = xs.flatMap enc := by
  rcases h.2 with ⟨h1, h2⟩ | ⟨g, c, cur, h1, h2, h3, h4, h5, h6, h7⟩
  · exact Or.inl ⟨h1, List.eq_nil_of_length_eq_zero h2⟩
  · refine Or.inr ⟨g, c, cur.toList, h1, h2, ?_, h4, h5, by simpa using h6, h7⟩
    unfold Row
    simpa using h3
theorem Own.ofRow {g c : Nat} {cs : List Value} (hs : ∀ x, (enc x).length = s) (hb : base ≤ g) (hr : Row w g cs e) (hc : xs.length ≤ c) (hm : c ≤ maxLen) (hl : cs.length = c * s) (ht : cs.take (xs.length * s) = xs.flatMap enc) : Own w base e s enc (.slice (some ⟨g, 0, none⟩) xs.length c) xs := by
  refine ⟨flatMap_length enc s hs xs, Or.inr ⟨g, c, cs.toArray, rfl, hb, hr, hc, hm, by simpa using hl, by simpa using ht⟩⟩
theorem flatMap_set (hs : ∀ x, (enc x).length = s) (x : α) : ∀ (xs : List α) (i : Nat), i < xs.length → (xs.set i x).flatMap enc = (xs.flatMap enc).take (i * s) ++ enc x ++ (xs.flatMap enc).drop (i * s + s)
  | [], i, h => absurd h (Nat.not_lt_zero _)
  | y :: r, 0, _ => by
    have := hs y
    simp [List.flatMap_cons, this]
  | y :: r, i + 1, h => by
    have hy := hs y
    have ih := flatMap_set hs x r i (by simpa using h)
    rw [List.set_cons_succ, List.flatMap_cons, ih, List.flatMap_cons]
    have e1 : (i + 1) * s = (enc y).length + i * s := by rw [hy, Nat.succ_mul]; omega
    rw [e1, List.take_length_add_append, show (enc y).length + i * s + s = (enc y).length + (i * s + s) by omega, List.drop_length_add_append]
    simp
/-- One element stored. -/
theorem Own.store (h : Own w base e s enc v xs) (hs : ∀ x, (enc x).length = s) (i : Nat) (hi : i < xs.length) (x : α) : ∃ g c, v = .slice (some ⟨g, 0, none⟩) xs.length c ∧ xs.length ≤ c ∧ base ≤ g ∧ stOk w g (i * s) s = true ∧ Own (stD w g (i * s) (enc x)) base e s enc v (xs.set i x) ∧ One g w (stD w g (i * s) (enc x)) := by
  rcases h.rowOf with ⟨_, rfl⟩ | ⟨g, c, cs, rfl, hb, hr, hc, hm, hl, ht⟩
  · simp at hi
  · have hle : i * s + s ≤ xs.length * s := by
      have : (i + 1) * s ≤ xs.length * s := Nat.mul_le_mul_right _ hi
      rwa [Nat.succ_mul] at this
    have hle2 : xs.length * s ≤ c * s := Nat.mul_le_mul_right _ hc
    refine ⟨g, c, rfl, hc, hb, Row.ok w hr (i * s) s (by omega), ?_, One.stD _ _⟩
    have hr2 := hr.stD (i * s) (enc x) (by rw [hs]; omega)
    have hlen : (xs.set i x).length = xs.length := List.length_set
    rw [hs] at hr2
    have := Own.ofRow (xs := xs.set i x) hs hb hr2 (by rw [hlen]; exact hc) hm (by
      simp only [List.length_append, List.length_take, List.length_drop, hs]
      omega) (by
      rw [hlen, flatMap_set hs x xs i hi, ← ht]
      have e1 : (cs.take (i * s)).length = i * s := by rw [List.length_take]; omega
      have t1 : (cs.take (i * s)).take (xs.length * s) = cs.take (i * s) := by rw [List.take_take, Nat.min_eq_right (by omega)]
      have t2 : (enc x).take (xs.length * s - i * s) = enc x := List.take_of_length_le (by rw [hs]; omega)
      have t3 : (cs.take (xs.length * s)).take (i * s) = cs.take (i * s) := by rw [List.take_take, Nat.min_eq_left (by omega)]
      have t4 : (cs.take (xs.length * s)).drop (i * s + s) = (cs.drop (i * s + s)).take (xs.length * s - (i * s + s)) := List.drop_take
      rw [List.append_assoc, List.take_append, e1, t1, List.take_append, hs, t2, t3, t4, List.append_assoc, Nat.sub_sub])
    rwa [hlen] at this
/-- The slice cut. -/
theorem Own.cut (h : Own w base e s enc v xs) (hs : ∀ x, (enc x).length = s) {A : Option Addr} {n c : Nat} (hv : v = .slice A n c) (i : Nat) (hi : i ≤ xs.length) : Own w base e s enc (.slice A i c) (xs.take i) := by
  rcases h.rowOf with ⟨h1, rfl⟩ | ⟨g, c2, cs, h1, hb, hr, hc, hm, hl, ht⟩
  · rw [h1] at hv
    cases hv
    obtain rfl : i = 0 := by simpa using hi
    exact Own.nil _ _ _ _ _
  · rw [h1] at hv
    cases hv
    have hlen : (xs.take i).length = i := by rw [List.length_take]; omega
    have := Own.ofRow (xs := xs.take i) hs hb hr (by omega) hm hl (by
      rw [hlen]
      have e1 := congrArg (List.take (i * s)) ht
      rw [List.take_take, Nat.min_eq_left (Nat.mul_le_mul_right _ hi)] at e1
      rw [e1]
      conv => lhs; rw [← List.take_append_drop i xs, List.flatMap_append]
      rw [List.take_left' (by rw [flatMap_length enc s hs, hlen])])
    rwa [hlen] at this
/-- What lies behind the slice turns. -/
theorem Own.behind (h : Own w base e s enc v xs) (hs : ∀ x, (enc x).length = s) {g n c : Nat} (hv : v = .slice (some ⟨g, 0, none⟩) n c) (k : Nat) (hk : xs.length * s ≤ k) (ds : List Value) (hd : k + ds.length ≤ c * s) : Own (stD w g k ds) base e s enc v xs := by
  rcases h.rowOf with ⟨h1, rfl⟩ | ⟨g2, c2, cs, h1, hb, hr, hc, hm, hl, ht⟩
  · rw [h1] at hv
    cases hv
  · rw [h1] at hv
    cases hv
    rw [h1]
    refine Own.ofRow hs hb (hr.stD k ds (by omega)) hc hm ?_ ?_
    · simp only [List.length_append, List.length_take, List.length_drop]
      omega
    · rw [List.append_assoc, List.take_append, List.take_take, Nat.min_eq_left hk, List.length_take, show xs.length * s - min k cs.length = 0 by omega, List.take_zero, List.append_nil, ht]
end
theorem zeroCells_size (z : Array Value) (n : Nat) : (Builtin.zeroCells z n).size = n * z.size := by
  simp [Builtin.zeroCells]
/-- clear of a slice of rows. -/
theorem run_clear_row {P : Program} (w : World) (t e : TypeId) (i : TypeInfo) (z : Value) (s : Nat) (ht : P.underlying t = some (.slice e)) (hi : P.info? e = some i) (hz : i.zero = some z) (hzs : z.cells.size = s) (h1 : ∀ u ∈ z.cells.toList, u.oneCell' = true)
    {b o n c : Nat} {cs : List Value} {t2 : TypeId} (hr : Row w b cs t2) (ho : o + n * s ≤ cs.length) :
    ∃ ds, ds.length = n * s ∧ ∀ ty, (Builtin.clear_ #[t] ty #[.slice (some ⟨b, o, none⟩) n c]).run P w = .ok (.tuple #[]) (stD w b o ds) := by
  have hv : ∀ w, (zeroValue e).run P w = .ok z w := by
    intro w
    simp [zeroValue, typeInfo, hi, hz]
  rcases Nat.eq_zero_or_pos n with rfl | hn
  · refine ⟨[], by simp, fun ty => ?_⟩
    simp [Builtin.clear_, run_underlying ht, stD, World.setCells]
  · refine ⟨(Builtin.zeroCells z.cells n).toList, by rw [Array.length_toList, zeroCells_size, hzs], fun ty => ?_⟩
    have hl : (Builtin.zeroCells z.cells n).toList.length = n * s := by rw [Array.length_toList, zeroCells_size, hzs]
    have hst := run_storeCells_cells (P := P) b o (Builtin.zeroCells z.cells n).toList 0 w (fun j hj => by
      rw [hr.cell, Nat.add_zero, List.getElem?_eq_getElem (by omega)]; rfl) (fun j hj => hr.fz _) (fun u hu => ?_)
    · simp only [Nat.add_zero] at hst
      obtain ⟨m, rfl⟩ : ∃ m, n = m + 1 := ⟨n - 1, by omega⟩
      simp [Builtin.clear_, run_underlying ht, hv, hst, stD]
    · simp [Builtin.zeroCells] at hu
      obtain ⟨j, hj, rfl⟩ := hu
      refine h1 _ ?_
      rw [getElem!_pos z.cells _ (Nat.mod_lt _ (by
        rcases Nat.eq_zero_or_pos z.cells.size with h0 | h0
        · rw [h0] at hj
          omega
        · exact h0))]
      exact Array.getElem_mem_toList _
theorem clear_parts {w : World} {b o n c : Nat} {cs : List Value} {t2 : TypeId} (hr : Row w b cs t2) (ho : o + n * 35 ≤ cs.length) : ∃ ds, ds.length = n * 35 ∧ ∀ ty, (Builtin.clear_ #[78] ty #[.slice (some ⟨b, o, none⟩) n c]).run Tryz.prog w = .ok (.tuple #[]) (stD w b o ds) := by
  have hk : (Tryz.prog.info? 86).map (fun i => (i.zero, i.size)) = some (some (vA zA), 35) := by kernel_rfl
  cases hq : Tryz.prog.info? 86 with
  | none => rw [hq] at hk; cases hk
  | some i =>
    rw [hq] at hk
    simp only [Option.map_some, Option.some.injEq, Prod.mk.injEq] at hk
    exact run_clear_row (P := Tryz.prog) w 78 86 i (vA zA) 35 underPAs hq hk.1 (by simp [vA, Value.cells, cA_length]) (by simpa [vA, Value.cells] using cA_one zA) hr ho
end Go.Proofs.YtgojaelkdpabkaaGreatDoor
