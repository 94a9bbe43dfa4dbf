/- What the law wants beside. -/
import Derived.Test.YtgojaelkdpabkaaGreatDoorMRun
namespace Go.Proofs.YtgojaelkdpabkaaGreatDoor
open Go.RowKit
theorem new13_no (n : Int) (h : n < 1 ∨ 64 < n) (w : World) : Calls Tryz.prog 13 #[.int .i64 n] w fun e w' => e = .returned (.tuple #[.pointer none, .int .i64 2]) ∧ Below w.heap.size w w' := by
 rcases h with h | h
 ·go_enter Tryz.func13, Tryz.ntmps13
  go_wp2
  go_ret2
  exact ⟨rfl, Below.refl _ _⟩
 ·have h2 : ¬ n < 1 := by omega
  go_enter Tryz.func13, Tryz.ntmps13
  go_wp2
  go_ret2
  exact ⟨rfl, Below.refl _ _⟩
section
open Go.ChangeShapes Go.WideShapes Go.ChangeAt Go.RowKit Go.Deep
/-! ### arguments -/
theorem id_val_of_trod {H : Type} {enc : TypeId × Value → H} {w : World} {t : TypeId} {v : Value} {d : DataW H} {p : List MemPlace} (ht : Tryz.prog.underlying t = some (.array 32 5)) (hc : Tryz.prog.cellsOf t = 32)
  (h : DataW.Trod enc Tryz.prog w 0 (fun _ => true) true t v d p) : ∃ y : Id, v = vI y := by
 obtain ⟨fuel, hf⟩ := h
 obtain ⟨y, hy⟩ := id_of_trod ht hc hf
 refine ⟨y, ?_⟩
 have hl : v.cells.toList.length = 32 := by rw [hy, cI_length]
 cases v <;> simp [Value.cells] at hl hy
 ·simp [vI, ← hy]
end
section
open Go.RowKit
set_option maxHeartbeats 1600000 in
theorem partial20 (b : Nat) (s : Tk) (F : List Nat) (va vk : SlV) (w : World) (h : TkR b s F va vk w) (hn : s.kept.length ≤ 1000000) :
  Calls Tryz.prog 20 #[.pointer (some ⟨b, 0, none⟩)] w fun e w' => ∃ B m d, e = .returned (.slice B m d) ∧ s.kept.length = m ∧ Own w' w.heap.size 30 32 cI (.slice B m d) (s.kept.map Pt.id) ∧ Below w.heap.size w w' := by
 have c3 := h.c3
 rw [h.lk] at c3
 have H := Lib.hid (ids44 vk.1 s.kept.length vk.2.2 s.kept w (Own.slOf h.ok) rfl hn)
 clear h
 go_enter Tryz.func20, Tryz.ntmps20
 go_wp2_with (go_at_call 44; refine H.out.mono ?_; rintro e w1 ⟨B, m, d, rfl, hm, ho, hb⟩; have HO := Lib.hid (And.intro hm (And.intro ho hb)); clear hm ho hb)
 go_ret
 exact ⟨B, m, d, rfl, HO.out.1, HO.out.2.1, HO.out.2.2⟩
end
section
open Go.RowKit
section
variable {w0 w : World} {b : Nat} {s : Tk} {F : List Nat}
theorem TkB.partial_ (h : TkB w0 b s F w) : Calls Tryz.prog 20 #[.pointer (some ⟨b, 0, none⟩)] w (IdsB w0 b s F w (s.kept.map Pt.id)) := by
 obtain ⟨va, vk, ht⟩ := h.tk
 exact (partial20 b s F va vk w ht (by have := h.inv.k100; omega)).mono fun _ _ ⟨B, m, d, e, h1, h2, h3⟩ => ⟨B, m, d, e, by rw [List.length_map]; exact h1, h2, h.keep h3, h3⟩
end
end
open Go.RowKit
theorem refNew46_no (n : Int) (h : n < 1 ∨ 64 < n) (w : World) : Calls Tryz.prog 46 #[.int .i64 n] w fun e w' => e = .returned (.tuple #[vT zT, .int .i64 2]) ∧ Below w.heap.size w w' := by
 obtain ⟨r0, hr0⟩ : ∃ r0, w.heap.size = r0 := ⟨_, rfl⟩
 obtain ⟨W1, hW1⟩ : ∃ W1, w.alloc (.cells (aT zT) 60) = W1 := ⟨_, rfl⟩
 have hb1 : Below w.heap.size w W1 := by rw [← hW1]; exact below_alloc _ _
 have ro : rowOk W1 r0 4 = true := by rw [← hW1, ← hr0]; exact Row.rowOk (Row.new w (cT zT) _) (cT_length _)
 have HB := Lib.hid (And.intro hb1 (Nat.le_of_eq hr0))
 clear hb1
 rcases h with h | h
 ·go_enter Tryz.func46, Tryz.ntmps46
  go_wp2
  exact bodyPost_ret (v := .tuple #[vT zT, .int .i64 2]) (results_c2 (ad := ⟨r0, 0, none⟩) rfl rfl (ld_setRowT _ ro) rfl) rfl ⟨rfl, by rw [← hr0]; exact Below.setRow' HB.out.1 (Nat.le_refl _) _⟩
 ·have q1 : ¬ n < 1 := by omega
  go_enter Tryz.func46, Tryz.ntmps46
  go_wp2
  exact bodyPost_ret (v := .tuple #[vT zT, .int .i64 2]) (results_c2 (ad := ⟨r0, 0, none⟩) rfl rfl (ld_setRowT _ ro) rfl) rfl ⟨rfl, by rw [← hr0]; exact Below.setRow' HB.out.1 (Nat.le_refl _) _⟩
end Go.Proofs.YtgojaelkdpabkaaGreatDoor
