/- A builder filled item by item and emptied whenever one does not fit yields the batches. -/
import Derived.Test.YtecalodcbkljoaaGreatDoorMRss
namespace Go.Proofs.YtecalodcbkljoaaGreatDoor
open Go.RowKit
/-- The t first items are taken: k batches are whole, the items L wait. -/
def GrI (most : Int) (X : List It) (t k : Nat) (L : List It) : Prop := ∃ f n, f + n = t ∧ t ≤ X.length ∧ L = (X.drop f).take n ∧ Cnt most (X.drop f) n ∧ ∃ ls0, ls0.length = k ∧ batches most X = ls0 ++ batches most (X.drop f)
section
variable {most : Int} {X L : List It} {t k : Nat}
theorem GrI.start (most : Int) (X : List It) : GrI most X 0 0 [] := ⟨0, 0, rfl, Nat.zero_le _, by simp, Cnt.zero _ _, [], rfl, rfl⟩
theorem GrI.len (h : GrI most X t k L) : L.length ≤ t := by
  obtain ⟨f, n, rfl, h1, rfl, -⟩ := h
  rw [List.length_take]
  omega
theorem GrI.cnt (h : GrI most X t k L) (hf : ∀ x ∈ X, Fine most x) : k ≤ t := by
  obtain ⟨f, n, rfl, h1, rfl, h3, ls0, rfl, h4⟩ := h
  obtain ⟨h5, h6⟩ := batches_flat most X.length X (Nat.le_refl _) (fun x hx => (hf x hx).2)
  obtain ⟨h7, -⟩ := batches_flat most (X.drop f).length (X.drop f) (Nat.le_refl _) (fun x hx => (hf x (List.mem_of_mem_drop hx)).2)
  rw [h4, List.flatten_append, h7] at h5
  have h8 : ls0.flatten.length = f := by
    have := congrArg List.length h5
    rw [List.length_append, List.length_drop] at this
    omega
  have h9 : ∀ b ∈ ls0, b ≠ [] := fun b hb => (h6 b (by rw [h4]; exact List.mem_append_left _ hb)).1
  have h10 : ∀ (m : List (List It)), (∀ b ∈ m, b ≠ []) → m.length ≤ m.flatten.length := by
    intro m
    induction m with
    | nil => intro _; simp
    | cons b r ih =>
      intro hb
      have h11 := ih (fun c hc => hb c (List.mem_cons_of_mem _ hc))
      have h12 := List.length_pos_iff.2 (hb b List.mem_cons_self)
      rw [List.length_cons, List.flatten_cons, List.length_append]
      omega
  have := h10 ls0 h9
  omega
theorem drop_at {f n : Nat} (h : f + n < X.length) : ∃ h2 : n < (X.drop f).length, (X.drop f)[n] = X[f + n] := ⟨by rw [List.length_drop]; omega, by rw [List.getElem_drop]⟩
theorem GrI.more (h : GrI most X t k L) (ht : t < X.length) (hl : L.length < 1000) (hs : ¬ most < (sizeN (L.length + 1) (sumN L + itN X[t]) : Int)) : GrI most X (t + 1) k (L ++ [X[t]]) := by
  obtain ⟨f, n, rfl, h1, rfl, h3, h4⟩ := h
  obtain ⟨h5, h6⟩ := drop_at ht
  have hn : ((X.drop f).take n).length = n := by rw [List.length_take]; omega
  rw [hn, ← h6] at hs
  refine ⟨f, n + 1, rfl, ht, ?_, h3.next h5 (by omega) (by omega), h4⟩
  rw [← h6, List.take_succ_eq_append_getElem h5]
theorem GrI.cut (h : GrI most X t k L) (hf : ∀ x ∈ X, Fine most x) (ht : t < X.length) (hl : 0 < L.length) (hs : most < (sizeN (L.length + 1) (sumN L + itN X[t]) : Int)) : (batches most X)[k]? = some L ∧ GrI most X (t + 1) (k + 1) [X[t]] := by
  obtain ⟨f, n, rfl, h1, rfl, h3, ls0, rfl, h4⟩ := h
  obtain ⟨h5, h6⟩ := drop_at ht
  have hn : ((X.drop f).take n).length = n := by rw [List.length_take]; omega
  rw [hn, ← h6] at hs
  rw [hn] at hl
  have hc : cut1 most (X.drop f) = n := h3.last (fun _ _ => by omega)
  have hne : X.drop f ≠ [] := fun e => by rw [e] at h5; simp at h5
  have hb := batches_cons most (X.drop f) hne (fun x hx => (hf x (List.mem_of_mem_drop hx)).2)
  rw [hc, List.drop_drop] at hb
  rw [hb] at h4
  refine ⟨by rw [h4, List.getElem?_append_right (Nat.le_refl _), Nat.sub_self]; rfl, f + n, 1, rfl, ht, ?_, Cnt.one hf ht, ls0 ++ [(X.drop f).take n], by simp, by rw [h4]; simp⟩
  rw [List.drop_eq_getElem_cons ht]
  rfl
theorem GrI.last (h : GrI most X t k L) (hf : ∀ x ∈ X, Fine most x) (ht : t = X.length) (h0 : 0 < L.length) : (batches most X)[k]? = some L ∧ (batches most X).length = k + 1 := by
  obtain ⟨f, n, rfl, h1, rfl, h3, ls0, rfl, h4⟩ := h
  have hn : ((X.drop f).take n).length = n := by rw [List.length_take, List.length_drop]; omega
  rw [hn] at h0
  have hlen : (X.drop f).length = n := by rw [List.length_drop]; omega
  have hc : cut1 most (X.drop f) = n := h3.last (fun h _ => by omega)
  have hne : X.drop f ≠ [] := fun e => by rw [e] at hlen; simp at hlen; omega
  have hb := batches_cons most (X.drop f) hne (fun x hx => (hf x (List.mem_of_mem_drop hx)).2)
  rw [hc, List.drop_drop, show X.drop (f + n) = [] from List.drop_eq_nil_of_le (by omega), batches_nil] at hb
  rw [hb] at h4
  refine ⟨by rw [h4, List.getElem?_append_right (Nat.le_refl _), Nat.sub_self]; rfl, by rw [h4]; simp⟩
end
/-- What Add answers where the greedy cut goes on, and where it ends. -/
theorem fine_add {most : Int} {x : It} (h : Fine most x) : ¬ most < (sizeN 1 (itN x) : Int) := by
  have := h.2
  unfold FitsB at this
  omega
end Go.Proofs.YtecalodcbkljoaaGreatDoor
