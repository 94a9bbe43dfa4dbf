/- A map from identities to booleans that the call itself made: read and written as the list of the identities that were laid into it. -/
import Derived.Test.YtcchpenaiomeeaaOpen
import Derived.Test.YtcchpenaiomeeaaSame
import Derived.DeepKeys5
import Derived.Maps.OwnSet
namespace Go.Proofs.Ytcchpenaiomeeaa
open Go.RowKit
theorem keyed33 : Maps.Keyed Try.prog 33 := Maps.Keyed.of_law (deep_law_gate laidOutTry (of_decide_eq_true (by kernel_rfl)) (of_decide_eq_true (by kernel_rfl)) (by kernel_rfl) (by rw [under33]))
theorem mapM_some {α β : Type} (f : α → Option β) (g : α → β) : ∀ l : List α, (∀ x ∈ l, f x = some (g x)) → l.mapM f = some (l.map g)
  | [], _ => rfl
  | x :: r, h => by
    simp only [List.mapM_cons, h x (by simp), mapM_some f g r (fun y hy => h y (by simp [hy])), List.map_cons]
    rfl
theorem key_some (x : Id) : ∃ kl, keyOf Try.prog 33 (vI x) = some kl := by
  have h1 : Try.prog.keyType 33 = true := by kernel_rfl
  have h2 : (vI x).formed Try.prog 33 = true := by
    have : (cI x).toArray.size = 32 := by simp [cI_length]
    simp [vI, Value.formed, under33, this, cells33]
  have h3 : ∃ d, Try.prog.types.size + 1 = d + 1 + 1 := ⟨Try.prog.types.size - 1, by have : Try.prog.types.size = Try.prog.types.size - 1 + 1 := by kernel_rfl
                                                                                     omega⟩
  obtain ⟨d, hd⟩ := h3
  have h4 : ∃ ls, Try.prog.keyLits (Try.prog.types.size + 1) 33 (vI x).cells.toList = some ls := by
    rw [hd, vI_cells']
    unfold Program.keyLits
    simp only [under33, cells33, cI_length, if_true, cells5, Nat.mul_one]
    have hel : ∀ i ∈ List.range 32, Try.prog.keyLits (d + 1) 5 (((cI x).drop i).take 1) = some (match (cI x)[i]? with | some (.int q n) => [.int q n] | _ => []) := by
      intro i hi
      have hi : i < 32 := by simpa using hi
      have hl : i < (cI x).length := by rw [cI_length]; exact hi
      rw [List.drop_eq_getElem_cons hl, List.take_succ_cons, List.take_zero, List.getElem?_eq_getElem hl]
      simp only [cI, List.getElem_map, cB]
      unfold Program.keyLits
      have hu : Try.prog.underlying 5 = some (.int .u8) := Try.underlying5
      have hw : (Lit.int .u8 ((x.1[i]'(by rw [x.2]; exact hi)).toNat : Int)).wf = true := by
        have := (x.1[i]'(by rw [x.2]; exact hi)).toNat_lt
        simp [Lit.wf, IntKind.min, IntKind.max, IntKind.signed, IntKind.bits]
        omega
      simp [hu, hw]
    rw [mapM_some _ _ _ hel]
    exact ⟨_, rfl⟩
  obtain ⟨ls, hls⟩ := h4
  refine ⟨.string (keyBytes ls), ?_⟩
  unfold keyOf
  simp only [under33, h1, h2, Bool.and_self, if_true, hls, Option.map_some]
/-- Block b is a map that holds true at the listed identities and nothing else. -/
def Mp (w : World) (b : Nat) (seen : List Id) : Prop :=
  ∃ D : DataW Unit, w.ownsMap Try.prog 33 (plainElem Try.prog 4) b seen.length D ∧ ∀ x kl, keyOf Try.prog 33 (vI x) = some kl → D.atKey kl (.lit (.bool false)) = .lit (.bool (decide (x ∈ seen)))
theorem under70 : Try.prog.underlying 70 = some (.map 33 4) := by kernel_rfl
theorem Mp.made (w : World) : Mp (w.alloc (.map #[] 0)) w.heap.size [] := ⟨_, World.ownsMap_made w _ _ _, fun _ _ _ => rfl⟩
theorem Mp.lt {w : World} {b : Nat} {seen : List Id} (h : Mp w b seen) : b < w.heap.size := by
  obtain ⟨D, h, _⟩ := h
  exact h.lt
theorem Mp.kept {w w' : World} {b : Nat} {seen : List Id} (h : Mp w b seen) (hb : Below w.heap.size w w') : Mp w' b seen := by
  obtain ⟨D, h, h2⟩ := h
  exact ⟨D, h.kept (row := none) ⟨hb.os, hb.tape, hb.output, hb.size, fun k hk _ => hb.block k hk⟩ (by simp), h2⟩
theorem plainElem_bool_inv {v : Value} {x : Bool} {ps : List MemPlace} (h : plainElem (H := Unit) Try.prog 4 v = some (.lit (.bool x), ps)) : v = .bool x := by
  have e4 : Try.prog.underlying 4 = some .bool := Try.underlying4
  cases v <;> simp [plainElem, e4] at h
  rw [h.1]
theorem vI_inj {x y : Id} (h : vI x = vI y) : x = y := by
  unfold vI at h
  simp only [Value.agg.injEq] at h
  have h2 : cI x = cI y := by simpa using h
  unfold cI at h2
  exact Subtype.ext ((List.map_inj_right (fun _ _ => cB_inj)).1 h2)
theorem Mp.look {w : World} {b : Nat} {seen : List Id} (h : Mp w b seen) (x : Id) : (Instr.lookup 70 (.map (some b)) (vI x) false).run Try.prog w = .ok (.bool (decide (x ∈ seen))) w := by
  obtain ⟨D, h1, h2⟩ := h
  obtain ⟨kl, hk⟩ := key_some x
  have hz : (zeroValue 4).run Try.prog w = .ok (.bool false) w := by kernel_rfl
  obtain ⟨v, ps, hrun, hv⟩ := h1.lookup keyed33 under70 hz (plainElem_bool Try.underlying4 false) hk
  rw [h2 x kl hk] at hv
  rw [hrun, plainElem_bool_inv hv]
theorem Mp.update {w : World} {b : Nat} {seen : List Id} (h : Mp w b seen) (x : Id) (hn : seen.length < maxLen) : ∃ w', (Instr.mapUpdate 70 (.map (some b)) (vI x) (.bool true)).run Try.prog w = .ok () w' ∧ Mp w' b (seen ++ [x]) ∧ w.grownBy w' (some b) := by
  obtain ⟨D, h1, h2⟩ := h
  obtain ⟨kl, hk⟩ := key_some x
  have hI := h1.isMap
  obtain ⟨w', hrun, h3, h4⟩ := h1.update keyed33 under70 hn hk (plainElem_bool Try.underlying4 true)
  refine ⟨w', hrun, ⟨_, by rw [List.length_append]; exact h3, fun y ky hy => ?_⟩, h4⟩
  by_cases he : y = x
  · subst he
    obtain rfl : kl = ky := by rw [hk] at hy; exact Option.some.inj hy
    rw [Maps.atKey_put_same hI (keyed33.key hk)]
    simp
  · have hne : ky ≠ kl := fun e => he (vI_inj (keyed33.inj hy (e ▸ hk)))
    rw [Maps.atKey_put_other hne, h2 y ky hy]
    simp [he]
theorem wpList_mapUpdate_mp (w : World) {ops : Array Oper} {rest : List Oper} {o : Oper} {a : Act} {Q : Exit → Act → World → Prop}
    (hg : o.guard = none) (m x v : Operand) (hop : o.op = Op.mapUpdate 70 m x v) (b : Nat) (seen : List Id) (id : Id)
    (hm : a.eval m = .map (some b)) (hown : Mp w b seen) (hn : seen.length < maxLen) (hx : a.eval x = vI id) (hv : a.eval v = .bool true)
    (hK : ∀ w', Mp w' b (seen ++ [id]) → w.grownBy w' (some b) → wpList Try.prog ops Q rest (a.put o.dst undef) w') :
    wpList Try.prog ops Q (o :: rest) a w := by
  refine wpList_plain hg fun K' hK' => ?_
  obtain ⟨w', hrun, r1, r2⟩ := hown.update id hn
  unfold Oper.wp
  simp [execOp, hop, hm, hx, hv, hrun, Result.andThen]
  exact hK' _ _ (hK w' r1 r2)
end Go.Proofs.Ytcchpenaiomeeaa
