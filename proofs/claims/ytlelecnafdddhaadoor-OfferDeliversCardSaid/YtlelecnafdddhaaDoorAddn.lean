/- Sender.Add whole: what it adds, what it says. -/
import Derived.Test.YtlelecnafdddhaaDoorKno
namespace Go.Proofs.YtlelecnafdddhaaDoor
open Go.RowKit
/-- What Add makes of a sender. -/
def addS (s : St) (x : Id) (t : ByteArray) : St × Int :=
  if x = zI ∨ t.toList.isEmpty = true then (s, 1)
  else if 65536 < t.size then (s, 5)
  else if crL t = true then (s, 6)
  else if hasS s x = true then (s, 7)
  else if 1024 ≤ s.wait.length then (s, 9)
  else ({ s with wait := s.wait ++ [(x, t)] }, 0)
def AddP (b : Nat) (ch : Int) (s : St) (F : List Nat) (w : World) (r : Int) : Ending → World → Prop := fun e w' => e = .returned (.int .i64 r) ∧ Rep b ch s F w' ∧ Below w.heap.size w w' 
set_option maxRecDepth 100000 in
set_option maxHeartbeats 1600000 in
theorem add_zero (b : Nat) (ch : Int) (s : St) (F : List Nat) (x : Id) (t : ByteArray) (w : World) (h : Rep b ch s F w) (hx : x = zI) : Calls Tryd.prog 15 #[.pointer (some ⟨b, 0, none⟩), vI x, .string t] w (AddP b ch s F w 1) := by
  have HX := Lib.hid h
  subst hx
  clear h
  go_enter Tryd.func15, Tryd.ntmps15
  go_wp2
  go_ret
  exact ⟨rfl, HX.out.keep (below_alloc _ _), below_alloc _ _⟩
set_option maxRecDepth 100000 in
set_option maxHeartbeats 1600000 in
theorem add_empty (b : Nat) (ch : Int) (s : St) (F : List Nat) (x : Id) (t : ByteArray) (w : World) (h : Rep b ch s F w) (hx : x ≠ zI) (ht : t.toList.isEmpty = true) : Calls Tryd.prog 15 #[.pointer (some ⟨b, 0, none⟩), vI x, .string t] w (AddP b ch s F w 1) := by
  have HX := Lib.hid h
  have hdx : decide (x = zI) = false := decide_eq_false hx
  clear h hx
  go_enter Tryd.func15, Tryd.ntmps15
  go_wp2
  go_ret
  exact ⟨rfl, HX.out.keep (below_alloc _ _), below_alloc _ _⟩
set_option maxRecDepth 100000 in
set_option maxHeartbeats 1600000 in
theorem add_long (b : Nat) (ch : Int) (s : St) (F : List Nat) (x : Id) (t : ByteArray) (w : World) (h : Rep b ch s F w) (hx : x ≠ zI) (ht : t.toList.isEmpty = false) (hts : 65536 < t.size) : Calls Tryd.prog 15 #[.pointer (some ⟨b, 0, none⟩), vI x, .string t] w (AddP b ch s F w 5) := by
  have HX := Lib.hid h
  have hdx : decide (x = zI) = false := decide_eq_false hx
  have hl : (65536 : Int) < (t.size : Int) := by omega
  clear h hx
  go_enter Tryd.func15, Tryd.ntmps15
  go_wp2
  go_ret
  exact ⟨rfl, HX.out.keep (below_alloc _ _), below_alloc _ _⟩
set_option maxRecDepth 100000 in
set_option maxHeartbeats 1600000 in
theorem add_byte (b : Nat) (ch : Int) (s : St) (F : List Nat) (x : Id) (t : ByteArray) (w : World) (h : Rep b ch s F w) (hx : x ≠ zI) (ht : t.toList.isEmpty = false) (hts : t.size ≤ 65536) (hcr : crL t = true) : Calls Tryd.prog 15 #[.pointer (some ⟨b, 0, none⟩), vI x, .string t] w (AddP b ch s F w 6) := by
  have HX := Lib.hid h
  have hdx : decide (x = zI) = false := decide_eq_false hx
  have hl : (t.size : Int) ≤ 65536 := by omega
  clear h hx
  go_enter Tryd.func15, Tryd.ntmps15
  go_wp2_with (go_at_call 37; refine (Tryd.strings_Contains_one t 13 _).mono ?_; rintro e w1 ⟨rfl, rfl⟩; rw [show decide (0 ≤ Lib.indexByte t.data.toList 13) = true from hcr])
  go_ret
  exact ⟨rfl, HX.out.keep (below_alloc _ _), below_alloc _ _⟩
set_option maxRecDepth 100000 in
set_option maxHeartbeats 1600000 in
theorem add_dup (b : Nat) (ch : Int) (s : St) (F : List Nat) (x : Id) (t : ByteArray) (w : World) (h : Rep b ch s F w) (hx : x ≠ zI) (ht : t.toList.isEmpty = false) (hts : t.size ≤ 65536) (hcr : crL t = false) (hh : hasS s x = true) (hm : s.wait.length ≤ 4294967296) : Calls Tryd.prog 15 #[.pointer (some ⟨b, 0, none⟩), vI x, .string t] w (AddP b ch s F w 7) := by
  have HX := Lib.hid h
  have hdx : decide (x = zI) = false := decide_eq_false hx
  have hl : (t.size : Int) ≤ 65536 := by omega
  clear h hx
  go_enter Tryd.func15, Tryd.ntmps15
  go_wp2_with (first
    | (go_at_call 37; refine (Tryd.strings_Contains_one t 13 _).mono ?_; rintro e w1 ⟨rfl, rfl⟩; rw [show decide (0 ≤ Lib.indexByte t.data.toList 13) = false from hcr])
    | (go_at_call 38; refine (has38 b ch s F x _ (Rep.keep HX.out (below_alloc w (.cells (aI x) 40))) (by omega)).mono ?_; rintro e w1 ⟨rfl, hb⟩; rw [hh]; have HB := Lib.hid (Below.step (below_alloc w (.cells (aI x) 40)) hb); clear hb))
  go_ret
  exact ⟨rfl, HX.out.keep HB.out, HB.out⟩
set_option maxRecDepth 100000 in
set_option maxHeartbeats 1600000 in
theorem add_limit (b : Nat) (ch : Int) (s : St) (F : List Nat) (x : Id) (t : ByteArray) (w : World) (h : Rep b ch s F w) (hx : x ≠ zI) (ht : t.toList.isEmpty = false) (hts : t.size ≤ 65536) (hcr : crL t = false) (hh : hasS s x = false) (hl : 1024 ≤ s.wait.length) (hm : s.wait.length ≤ 4294967296) : Calls Tryd.prog 15 #[.pointer (some ⟨b, 0, none⟩), vI x, .string t] w (AddP b ch s F w 9) := by
  have HX := Lib.hid h
  obtain ⟨vw, vo, q, h⟩ := h
  have r1 := h.c1
  obtain ⟨A, c, hvw, hc, hsl⟩ := h.ow.sl
  subst hvw
  have hdx : decide (x = zI) = false := decide_eq_false hx
  have hl2 : (t.size : Int) ≤ 65536 := by omega
  have hl3 : (1024 : Int) ≤ (s.wait.length : Int) := by omega
  clear h hx hsl
  generalize hn : s.wait.length = n at *
  go_enter Tryd.func15, Tryd.ntmps15
  go_wp2_with (first
    | (go_at_call 37; refine (Tryd.strings_Contains_one t 13 _).mono ?_; rintro e w1 ⟨rfl, rfl⟩; rw [show decide (0 ≤ Lib.indexByte t.data.toList 13) = false from hcr])
    | (go_at_call 38; refine (has38 b ch s F x _ (Rep.keep HX.out (below_alloc w (.cells (aI x) 40))) (by omega)).mono ?_; rintro e w1 ⟨rfl, hb⟩; rw [hh]; have r9 := cell_below r1 (Below.step (below_alloc w (.cells (aI x) 40)) hb); have HB := Lib.hid (Below.step (below_alloc w (.cells (aI x) 40)) hb); clear hb))
  go_ret
  exact ⟨rfl, HX.out.keep HB.out, HB.out⟩
/-- Sender.Add. -/
theorem add15 (b : Nat) (ch : Int) (s : St) (F : List Nat) (x : Id) (t : ByteArray) (w : World) (h : Rep b ch s F w) (hm : s.wait.length ≤ 100000) :
    Calls Tryd.prog 15 #[.pointer (some ⟨b, 0, none⟩), vI x, .string t] w fun e w' => e = .returned (.int .i64 (addS s x t).2) ∧ ∃ F', Rep b ch (addS s x t).1 F' w' ∧ Kp F F' w w' := by
  have no : ∀ r, addS s x t = (s, r) → Calls Tryd.prog 15 #[.pointer (some ⟨b, 0, none⟩), vI x, .string t] w (AddP b ch s F w r) → Calls Tryd.prog 15 #[.pointer (some ⟨b, 0, none⟩), vI x, .string t] w fun e w' => e = .returned (.int .i64 (addS s x t).2) ∧ ∃ F', Rep b ch (addS s x t).1 F' w' ∧ Kp F F' w w' := by
    intro r hr hc
    rw [hr]
    exact hc.mono fun e w' ⟨h1, h2, h3⟩ => ⟨h1, F, h2, Kp.of_below h3⟩
  by_cases hx : x = zI
  · exact no 1 (by unfold addS; rw [if_pos (Or.inl hx)]) (add_zero b ch s F x t w h hx)
  · cases ht : t.toList.isEmpty with
    | true => exact no 1 (by unfold addS; rw [if_pos (Or.inr ht)]) (add_empty b ch s F x t w h hx ht)
    | false =>
      have h1 : ¬ (x = zI ∨ t.toList.isEmpty = true) := by rw [ht]; simp [hx]
      by_cases hts : 65536 < t.size
      · exact no 5 (by unfold addS; rw [if_neg h1, if_pos hts]) (add_long b ch s F x t w h hx ht hts)
      · cases hcr : crL t with
        | true => exact no 6 (by unfold addS; rw [if_neg h1, if_neg hts, if_pos hcr]) (add_byte b ch s F x t w h hx ht (by omega) hcr)
        | false =>
          have h2 : ¬ crL t = true := by rw [hcr]; decide
          cases hh : hasS s x with
          | true => exact no 7 (by unfold addS; rw [if_neg h1, if_neg hts, if_neg h2, if_pos hh]) (add_dup b ch s F x t w h hx ht (by omega) hcr hh (by omega))
          | false =>
            have h3 : ¬ hasS s x = true := by rw [hh]; decide
            by_cases hl : 1024 ≤ s.wait.length
            · exact no 9 (by unfold addS; rw [if_neg h1, if_neg hts, if_neg h2, if_neg h3, if_pos hl]) (add_limit b ch s F x t w h hx ht (by omega) hcr hh hl (by omega))
            · rw [show addS s x t = ({ s with wait := s.wait ++ [(x, t)] }, 0) by unfold addS; rw [if_neg h1, if_neg hts, if_neg h2, if_neg h3, if_neg hl]]
              exact add15_ok b ch s F x t w h hx ht (by omega) hcr hh (by omega)
end Go.Proofs.YtlelecnafdddhaaDoor
