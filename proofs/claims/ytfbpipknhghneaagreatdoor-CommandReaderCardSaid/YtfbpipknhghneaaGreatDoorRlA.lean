/- The reference's line and Encode. The reference's Encode. -/
import Derived.Test.YtfbpipknhghneaaGreatDoorRchk
import Derived.Test.YtfbpipknhghneaaGreatDoorRpA
import Derived.Test.YtfbpipknhghneaaGreatDoorTxA
namespace Go.Proofs.YtfbpipknhghneaaGreatDoor
section
open Go.RowKit
theorem join1 (a : List UInt8) : Lib.join [a] [32] = a := Lib.join_one a _
theorem joinS (a b : List UInt8) (r : List (List UInt8)) : Lib.join (a :: b :: r) [32] = a ++ 32 :: Lib.join (b :: r) [32] := by
  rw [Lib.join_cons, Lib.join_cons]
  unfold Lib.joinTail
  simp
/-- What is printed of a valid command stands in its form. -/
theorem canon_v (c : Cm) (h : chk c = 0) (fl : Int) (hf : (formC c).2.1 = fl) : Canon c fl := hf ▸ canon c h
def LineP (c : Cm) (w : World) : Ending → World → Prop := fun e w' => ∃ t, e = .returned (.string t) ∧ bl t = lineC c ∧ Below w.heap.size w w'
theorem lineC_v1 (c : Cm) (hv : c.verb = 1) : bl (((⟨#[104, 101, 108, 108, 111]⟩ ++ ⟨#[32]⟩) ++ c.name) ++ ⟨#[32]⟩ ++ itoaB c.count) = lineC c := by
  have hf : formC c = (⟨#[104, 101, 108, 108, 111]⟩, 17, 0) := by unfold formC; rw [hv]; rfl
  unfold lineC
  rw [words_all, hf, if_pos (by decide), if_neg (by decide), if_neg (by decide), if_neg (by decide), if_pos (by decide), if_neg (by decide)]
  simp only [List.nil_append, List.cons_append, List.map_cons, List.map_nil, joinS, join1, bl_app, List.append_assoc]
  rfl
theorem lineC_v2 (c : Cm) (hv : c.verb = 2) : bl (⟨#[111, 102, 102, 101, 114]⟩ ++ ⟨#[32]⟩ ++ textS c.id ++ ⟨#[32]⟩ ++ itoaB c.size) = lineC c := by
  have hf : formC c = (⟨#[111, 102, 102, 101, 114]⟩, 6, 0) := by unfold formC; rw [hv]; rfl
  unfold lineC
  rw [words_all, hf, if_neg (by decide), if_pos (by decide), if_pos (by decide), if_neg (by decide), if_neg (by decide), if_neg (by decide)]
  simp only [List.nil_append, List.cons_append, List.map_cons, List.map_nil, joinS, join1, bl_app, List.append_assoc]
  rfl
theorem lineC_v3 (c : Cm) (hv : c.verb = 3) : bl (⟨#[119, 97, 110, 116]⟩ ++ ⟨#[32]⟩ ++ textS c.id ++ ⟨#[32]⟩ ++ itoaB c.from_) = lineC c := by
  have hf : formC c = (⟨#[119, 97, 110, 116]⟩, 10, 0) := by unfold formC; rw [hv]; rfl
  unfold lineC
  rw [words_all, hf, if_neg (by decide), if_pos (by decide), if_neg (by decide), if_pos (by decide), if_neg (by decide), if_neg (by decide)]
  simp only [List.nil_append, List.cons_append, List.map_cons, List.map_nil, joinS, join1, bl_app, List.append_assoc]
  rfl
theorem lineC_v4 (c : Cm) (hv : c.verb = 4) : bl (⟨#[104, 97, 118, 101]⟩ ++ ⟨#[32]⟩ ++ textS c.id) = lineC c := by
  have hf : formC c = (⟨#[104, 97, 118, 101]⟩, 2, 0) := by unfold formC; rw [hv]; rfl
  unfold lineC
  rw [words_all, hf, if_neg (by decide), if_pos (by decide), if_neg (by decide), if_neg (by decide), if_neg (by decide), if_neg (by decide)]
  simp only [List.nil_append, List.cons_append, List.map_cons, List.map_nil, joinS, join1, bl_app, List.append_assoc]
  rfl
theorem lineC_v5 (c : Cm) (hv : c.verb = 5) : bl (⟨#[108, 97, 116, 101, 114]⟩ ++ ⟨#[32]⟩ ++ textS c.id) = lineC c := by
  have hf : formC c = (⟨#[108, 97, 116, 101, 114]⟩, 2, 0) := by unfold formC; rw [hv]; rfl
  unfold lineC
  rw [words_all, hf, if_neg (by decide), if_pos (by decide), if_neg (by decide), if_neg (by decide), if_neg (by decide), if_neg (by decide)]
  simp only [List.nil_append, List.cons_append, List.map_cons, List.map_nil, joinS, join1, bl_app, List.append_assoc]
  rfl
theorem lineC_v6 (c : Cm) (hv : c.verb = 6) : bl (⟨#[114, 101, 102, 117, 115, 101]⟩ ++ ⟨#[32]⟩ ++ textS c.id ++ ⟨#[32]⟩ ++ itoaB c.code) = lineC c := by
  have hf : formC c = (⟨#[114, 101, 102, 117, 115, 101]⟩, 34, 0) := by unfold formC; rw [hv]; rfl
  unfold lineC
  rw [words_all, hf, if_neg (by decide), if_pos (by decide), if_neg (by decide), if_neg (by decide), if_neg (by decide), if_pos (by decide)]
  simp only [List.nil_append, List.cons_append, List.map_cons, List.map_nil, joinS, join1, bl_app, List.append_assoc]
  rfl
theorem lineC_v7 (c : Cm) (hv : c.verb = 7) : bl (⟨#[100, 97, 116, 97]⟩ ++ ⟨#[32]⟩ ++ textS c.id ++ ⟨#[32]⟩ ++ itoaB c.from_) = lineC c := by
  have hf : formC c = (⟨#[100, 97, 116, 97]⟩, 74, 4096) := by unfold formC; rw [hv]; rfl
  unfold lineC
  rw [words_all, hf, if_neg (by decide), if_pos (by decide), if_neg (by decide), if_pos (by decide), if_neg (by decide), if_neg (by decide)]
  simp only [List.nil_append, List.cons_append, List.map_cons, List.map_nil, joinS, join1, bl_app, List.append_assoc]
  rfl
theorem lineC_v8 (c : Cm) (hv : c.verb = 8) : bl (⟨#[100, 111, 110, 101]⟩ ++ ⟨#[32]⟩ ++ textS c.id) = lineC c := by
  have hf : formC c = (⟨#[100, 111, 110, 101]⟩, 2, 0) := by unfold formC; rw [hv]; rfl
  unfold lineC
  rw [words_all, hf, if_neg (by decide), if_pos (by decide), if_neg (by decide), if_neg (by decide), if_neg (by decide), if_neg (by decide)]
  simp only [List.nil_append, List.cons_append, List.map_cons, List.map_nil, joinS, join1, bl_app, List.append_assoc]
  rfl
theorem lineC_v9 (c : Cm) (hv : c.verb = 9) : bl (⟨#[103, 111, 116]⟩ ++ ⟨#[32]⟩ ++ textS c.id) = lineC c := by
  have hf : formC c = (⟨#[103, 111, 116]⟩, 2, 0) := by unfold formC; rw [hv]; rfl
  unfold lineC
  rw [words_all, hf, if_neg (by decide), if_pos (by decide), if_neg (by decide), if_neg (by decide), if_neg (by decide), if_neg (by decide)]
  simp only [List.nil_append, List.cons_append, List.map_cons, List.map_nil, joinS, join1, bl_app, List.append_assoc]
  rfl
theorem lineC_v10 (c : Cm) (hv : c.verb = 10) : bl (⟨#[98, 97, 116, 99, 104]⟩) = lineC c := by
  have hf : formC c = (⟨#[98, 97, 116, 99, 104]⟩, 64, 262144) := by unfold formC; rw [hv]; rfl
  unfold lineC
  rw [words_all, hf, if_neg (by decide), if_neg (by decide), if_neg (by decide), if_neg (by decide), if_neg (by decide), if_neg (by decide)]
  simp only [List.nil_append, List.map_cons, List.map_nil, join1]
theorem lineC_v11 (c : Cm) (hv : c.verb = 11) : bl (⟨#[113, 117, 105, 116]⟩) = lineC c := by
  have hf : formC c = (⟨#[113, 117, 105, 116]⟩, 0, 0) := by unfold formC; rw [hv]; rfl
  unfold lineC
  rw [words_all, hf, if_neg (by decide), if_neg (by decide), if_neg (by decide), if_neg (by decide), if_neg (by decide), if_neg (by decide)]
  simp only [List.nil_append, List.map_cons, List.map_nil, join1]
end
section
open Go.RowKit
theorem text_flag (c : Cm) (h1 : 1 ≤ c.verb) (h2 : c.verb ≤ 11) : (bits BinOp.and .i64 (formC c).2.1 64 == 0) = !(decide (c.verb = 7) || decide (c.verb = 10)) := by
  have h : c.verb = 1 ∨ c.verb = 2 ∨ c.verb = 3 ∨ c.verb = 4 ∨ c.verb = 5 ∨ c.verb = 6 ∨ c.verb = 7 ∨ c.verb = 8 ∨ c.verb = 9 ∨ c.verb = 10 ∨ c.verb = 11 := by omega
  unfold formC
  rcases h with h | h | h | h | h | h | h | h | h | h | h <;> (rw [h]; decide)
def RencP (c : Cm) (w : World) : Ending → World → Prop := fun e w' => ∃ t, e = .returned (.tuple #[.string t, .int .i64 (chk c)]) ∧ bl t = encT c ∧ Below w.heap.size w w'
end
end Go.Proofs.YtfbpipknhghneaaGreatDoor
