/- field's parser: word. -/
import Derived.Test.YtibelollgdnidaaGreatDoorMPa1
import Derived.BigQuiet
namespace Go.Proofs.YtibelollgdnidaaGreatDoor
open Go.RowKit
structure WdOk (T : ByteArray) (a b e : Nat) (x : List UInt8) : Prop where
 sz : e < T.size
 le : b ≤ e
 lt : a + 1 < b
 n9 : b - (a + 1) ≤ 900
 b1 : ∀ h : a < T.size, blankB T[a] = true
 b2 : ∀ j (h : j < T.size), a < j → j < b → blankB T[j] = false
 b3 : b = e ∨ ∀ h : b < T.size, blankB T[b] = true
 ex : T.extract (a + 1) b = tx x
theorem get_of {t : List UInt8} {a j : Nat} {l r : List UInt8} {c : UInt8} (ht : t.drop a = l ++ r) (hj : l[j]? = some c) (h : a + j < (tx t).size) : (tx t)[a + j] = c := by
 have h1 : t[a + j]? = some c := by
  rw [← List.getElem?_drop, ht, List.getElem?_append_left (List.getElem?_eq_some_iff.1 hj).1, hj]
 have h2 : (bl (tx t))[a + j]? = some (tx t)[a + j] := List.getElem?_eq_getElem (by rw [bl_length]; exact h)
 rw [bl_tx, h1] at h2
 exact (Option.some.inj h2).symm
theorem vis_blank (c : UInt8) (h : visB c = true) : blankB c = false := by
 have h2 : (!visB c || !blankB c) = true := byte_all (p := fun c => !visB c || !blankB c) (by decide +kernel) c
 rw [h] at h2
 simpa using h2
theorem WdOk.of {t : List UInt8} {a : Nat} {x l r : List UInt8} (ht : t.drop a = (32 :: (x ++ l)) ++ 10 :: r) (h0 : x ≠ []) (h9 : x.length ≤ 900) (hv : ∀ c ∈ x, visB c = true) (hl : l = [] ∨ l.head? = some 32) : WdOk (tx t) a (a + 1 + x.length) (a + 1 + x.length + l.length) x := by
 have hlen : a + 1 + x.length + l.length < t.length := by
  have := congrArg List.length ht
  rw [List.length_drop, List.length_append, List.length_cons, List.length_cons, List.length_append] at this
  omega
 have hx0 : 0 < x.length := List.length_pos_iff.2 h0
 refine ⟨hlen, by omega, by omega, by omega, fun h => ?_, fun j h h1 h2 => ?_, ?_, ?_⟩
 ·have := get_of (j := 0) (c := 32) ht rfl h
  rw [show (tx t)[a] = 32 from this]
  rfl
 ·obtain ⟨i, rfl⟩ : ∃ i, j = a + (i + 1) := ⟨j - a - 1, by omega⟩
  have hi : i < x.length := by omega
  have hg : (32 :: (x ++ l))[i + 1]? = some x[i] := by rw [List.getElem?_cons_succ, List.getElem?_append_left hi, List.getElem?_eq_getElem hi]
  rw [get_of ht hg h]
  have h3 := hv x[i] (List.getElem_mem _)
  exact vis_blank _ h3
 ·rcases hl with rfl | hl
  ·exact .inl rfl
  ·refine .inr fun h => ?_
   have hg : (32 :: (x ++ l))[x.length + 1]? = some 32 := by
    rw [List.getElem?_cons_succ, List.getElem?_append_right (Nat.le_refl _), Nat.sub_self]
    rw [← List.head?_eq_getElem?]
    exact hl
   have h2 : a + (x.length + 1) < (tx t).size := by rw [show a + (x.length + 1) = a + 1 + x.length by omega]; exact h
   have := get_of ht hg h2
   have e1 : ∀ (i k : Nat) (hik : i = k) (hi : i < (tx t).size) (hk : k < (tx t).size), (tx t)[i] = (tx t)[k] := fun i k e _ _ => by subst e; rfl
   rw [e1 (a + 1 + x.length) (a + (x.length + 1)) (by omega) h h2, this]
   rfl
 ·refine ext_part t (a + 1) x (l ++ 10 :: r) ?_
  rw [← List.drop_drop, ht]
  simp
def WF (p : Nat) (T : ByteArray) (F E a : Int) (v : Value) (fs : List Fb) (nm y : List UInt8) (W u : World) : Bool → Prop
 | false => Below W.heap.size W u
 | true => PsS p T F E a v (fs ++ [(nm, y)]) u ∧ Below p W u
theorem PsS.last {p : Nat} {T : ByteArray} {F E a : Int} {fs : List Fb} {nm bd : List UInt8} {w : World} {g n c k : Nat} (h : PsS p T F E a (.slice (some ⟨g, 0, none⟩) n c) (fs ++ [(nm, bd)]) w) (hk : fs.length = k) : w.cell? ⟨g, k * 2 + 1, none⟩ = some (.string (tx bd)) ∧ (∀ u, Below w.heap.size w u → u.frozen? ⟨g, k * 2 + 1, none⟩ = false) ∧ ∀ y u, Below w.heap.size w u → PsS p T F E a (.slice (some ⟨g, 0, none⟩) n c) (fs ++ [(nm, y)]) (u.setCell ⟨g, k * 2 + 1, none⟩ (.string (tx y))) ∧ Below p w (u.setCell ⟨g, k * 2 + 1, none⟩ (.string (tx y))) := by
 subst hk
 obtain ⟨g2, c2, e, -, hg, -, -, h1, -, -⟩ := own_last h.own
 cases e
 refine ⟨h1, fun u hu => ?_, fun y u hu => ?_⟩
 ·obtain ⟨g2, c2, e, -, -, -, -, -, h1, -⟩ := own_last (h.own.keep hu)
  cases e
  exact h1
 ·obtain ⟨g2, c2, e, -, -, -, -, -, -, h1⟩ := own_last (h.own.keep hu)
  cases e
  exact ⟨⟨Row.same (Row.keep h.row hu) (heap_set_other u g _ _ p (by omega)), h1 y⟩, (hu.mono (Nat.le_of_lt (Row.lt h.row))).setCell (by show p ≤ g; omega) _⟩
theorem Below.on {p : Nat} {w w1 w2 : World} (h : Below p w w1) (hp : p ≤ w.heap.size) (h2 : Below w1.heap.size w1 w2) : Below p w w2 := h.trans (h2.mono (Nat.le_trans hp h.size))
def stM (p : Nat) (W : World) : Nat := match W.cell? ⟨p, 3, none⟩ with | some v => (intOf v).toNat | none => 0
theorem stM_at {p : Nat} {W : World} {a : Nat} (h : W.cell? ⟨p, 3, none⟩ = some (.int .i64 (a : Int))) : stM p W = a := by unfold stM; rw [h]; rfl
set_option maxRecDepth 100000 in
set_option maxHeartbeats 3200000 in
theorem word105_end (p e : Nat) (T : ByteArray) (F : Int) (v : Value) (fs : List Fb) (w : World) (h : PsS p T F (e : Int) (e : Int) v fs w) : Calls Tryz.prog 105 #[.pointer (some ⟨p, 0, none⟩)] w fun e' w' => e' = .returned (.bool false) ∧ PsS p T F (e : Int) (e : Int) v fs w' ∧ Below w.heap.size w w' := by
 have H := Lib.hid h
 clear h
 go_enter Tryz.func105, Tryz.ntmps105
 go_wp2
 go_loopw [] (fun wr => Below w.heap.size w wr) (fun _ => 0)
 case atStart => exact Below.refl _ _
 case round =>
  have HB := Lib.hid (And.intro hrel (H.out.keep hrel))
  have q0 : ∀ j, (wr.drewN j).cell? ⟨p, 0, none⟩ = some (.string T) := fun j => (Row.keep HB.out.2.row (below_drewN wr j)).cell 0
  have q2 : ∀ j, (wr.drewN j).cell? ⟨p, 2, none⟩ = some (.int .i64 (e : Int)) := fun j => (Row.keep HB.out.2.row (below_drewN wr j)).cell 2
  have q3 : ∀ j, (wr.drewN j).cell? ⟨p, 3, none⟩ = some (.int .i64 (e : Int)) := fun j => (Row.keep HB.out.2.row (below_drewN wr j)).cell 3
  have q5 : ∀ j, (wr.drewN j).cell? ⟨p, 5, none⟩ = some (.int .i64 0) := fun j => (Row.keep HB.out.2.row (below_drewN wr j)).cell 5
  clear hrel
  go_wp2
  go_quiet (fail)
  have S2 := Lib.hid (And.intro (HB.out.2.keep (below_drewN wr nq)) (Below.step HB.out.1 (below_drewN wr nq)))
  clear q0 q2 q3 q5 HB
  revert S2
  generalize wr.drewN nq = w2
  intro S2
  have q0 : ∀ j, (w2.drewN j).cell? ⟨p, 0, none⟩ = some (.string T) := fun j => (Row.keep S2.out.1.row (below_drewN w2 j)).cell 0
  have q2 : ∀ j, (w2.drewN j).cell? ⟨p, 2, none⟩ = some (.int .i64 (e : Int)) := fun j => (Row.keep S2.out.1.row (below_drewN w2 j)).cell 2
  have q3 : ∀ j, (w2.drewN j).cell? ⟨p, 3, none⟩ = some (.int .i64 (e : Int)) := fun j => (Row.keep S2.out.1.row (below_drewN w2 j)).cell 3
  have q5 : ∀ j, (w2.drewN j).cell? ⟨p, 5, none⟩ = some (.int .i64 0) := fun j => (Row.keep S2.out.1.row (below_drewN w2 j)).cell 5
  go_wp2
  go_quiet (fail)
  go_wp2
  go_ret
  exact ⟨rfl, S2.out.1.keep (below_drewN w2 _), Below.step S2.out.2 (below_drewN w2 _)⟩
set_option maxRecDepth 100000 in
set_option maxHeartbeats 6400000 in
theorem word105 (p a b e : Nat) (T : ByteArray) (F : Int) (v : Value) (fs : List Fb) (nm bd x : List UInt8) (w : World) (h : PsS p T F (e : Int) (a : Int) v (fs ++ [(nm, bd)]) w) (hx : WdOk T a b e x) (hT : T.size ≤ 60000) (hbd : bd.length ≤ 900) (hfs : fs.length ≤ 60) : Calls Tryz.prog 105 #[.pointer (some ⟨p, 0, none⟩)] w fun e' w' => e' = .returned (.bool true) ∧ PsS p T F (e : Int) (b : Int) v (fs ++ [(nm, if bd = [] then x else bd ++ 32 :: x)]) w' ∧ Below p w w' := by
 obtain ⟨yy, hyy⟩ : ∃ y, (if bd = [] then x else bd ++ 32 :: x) = y := ⟨_, rfl⟩
 rw [hyy]
 have HY0 := Lib.hid hyy
 clear hyy
 obtain ⟨a1, ha1⟩ : ∃ a1, a + 1 = a1 := ⟨_, rfl⟩
 obtain ⟨E, hE⟩ : ∃ E : Int, (e : Int) = E := ⟨_, rfl⟩
 have haE : (a : Int) < E := by have := hx.le; have := hx.lt; omega
 have ha1E : (a1 : Int) < E := by have := hx.le; have := hx.lt; omega
 have haT : (a : Int) < (T.size : Int) := by have := hx.le; have := hx.lt; have := hx.sz; omega
 have haT' : a < T.size := by omega
 have ha1T : (a1 : Int) < (T.size : Int) := by have := hx.le; have := hx.lt; have := hx.sz; omega
 have ha1T' : a1 < T.size := by omega
 have hba := hx.b1 haT'
 have hba1 := hx.b2 a1 ha1T' (by omega) (by have := hx.lt; omega)
 have hcast : (a : Int) + 1 = (a1 : Int) := by omega
 have ha6 : (a : Int) ≤ 60000 := by omega
 have H := Lib.hid h
 have HX := Lib.hid (And.intro hx (And.intro ha1 (And.intro hE (And.intro hT hbd))))
 have HPW := Lib.hid (Row.lt h.row)
 have HFS := Lib.hid hfs
 rw [hE]
 rw [hE] at H
 clear h hx hbd ha1 hE hT hfs
 go_enter Tryz.func105, Tryz.ntmps105
 go_wp2
 go_loopw [] (fun wr => ∃ i : Nat, (i = a ∨ i = a1) ∧ PsS p T F E (i : Int) v (fs ++ [(nm, bd)]) wr ∧ Below p w wr) (fun wr => a1 - stM p wr)
 case atStart => exact ⟨a, .inl rfl, H.out, Below.refl _ _⟩
 case round =>
  obtain ⟨i, hi, hps, hbw⟩ := hrel
  have hi3 : wr.cell? ⟨p, 3, none⟩ = some (.int .i64 (i : Int)) := Row.cell hps.row 3
  have HI := Lib.hid hi3
  have HB := Lib.hid (And.intro hps hbw)
  clear hps hbw hi3
  have q0 : ∀ j, (wr.drewN j).cell? ⟨p, 0, none⟩ = some (.string T) := fun j => (Row.keep HB.out.1.row (below_drewN wr j)).cell 0
  have q2 : ∀ j, (wr.drewN j).cell? ⟨p, 2, none⟩ = some (.int .i64 E) := fun j => (Row.keep HB.out.1.row (below_drewN wr j)).cell 2
  have q3 : ∀ j, (wr.drewN j).cell? ⟨p, 3, none⟩ = some (.int .i64 (i : Int)) := fun j => (Row.keep HB.out.1.row (below_drewN wr j)).cell 3
  have q5 : ∀ j, (wr.drewN j).cell? ⟨p, 5, none⟩ = some (.int .i64 0) := fun j => (Row.keep HB.out.1.row (below_drewN wr j)).cell 5
  rcases hi with rfl | rfl
  ·go_wp2
   go_quiet (exact Calls.quiet_of_same ((isBlank_b _ _).mono (by rintro e w3 ⟨rfl, rfl⟩; exact ⟨by rw [hba], rfl⟩)))
   have S2 := Lib.hid (And.intro (HB.out.1.keep (below_drewN wr nq)) (Below.on HB.out.2 (Nat.le_of_lt HPW.out) (below_drewN wr nq)))
   clear q0 q2 q3 q5 HB
   revert S2
   generalize wr.drewN nq = w2
   intro S2
   have q3 := Row.cell S2.out.1.row 3
   have z3 := Row.fz S2.out.1.row 3
   go_wp2
   go_roundw
   case rel => exact ⟨a1, .inr rfl, by rw [← hcast]; exact ⟨Row.set S2.out.1.row 3 _, S2.out.1.own.one (One.set 3 _) (Nat.lt_succ_self _)⟩, S2.out.2.setCell (Nat.le_refl _) _⟩
   case measure =>
    have : stM p (w2.setCell ⟨p, 3, none⟩ (.int .i64 (a1 : Int))) = a1 := stM_at (Row.cell (Row.set S2.out.1.row 3 _) 3)
    rw [stM_at HI.out, this]
    have := HX.out.2.1
    omega
  ·go_wp2
   go_quiet (exact Calls.quiet_of_same ((isBlank_b _ _).mono (by rintro e w3 ⟨rfl, rfl⟩; exact ⟨by rw [hba1], rfl⟩)))
   have S2 := Lib.hid (And.intro (HB.out.1.keep (below_drewN wr nq)) (Below.on HB.out.2 (Nat.le_of_lt HPW.out) (below_drewN wr nq)))
   clear q0 q2 q3 q5 HB
   revert S2
   generalize wr.drewN nq = w2
   intro S2
   have q2 : ∀ j, (w2.drewN j).cell? ⟨p, 2, none⟩ = some (.int .i64 E) := fun j => (Row.keep S2.out.1.row (below_drewN w2 j)).cell 2
   have q3 : ∀ j, (w2.drewN j).cell? ⟨p, 3, none⟩ = some (.int .i64 (i : Int)) := fun j => (Row.keep S2.out.1.row (below_drewN w2 j)).cell 3
   have q5 : ∀ j, (w2.drewN j).cell? ⟨p, 5, none⟩ = some (.int .i64 0) := fun j => (Row.keep S2.out.1.row (below_drewN w2 j)).cell 5
   have hneq : ((i : Int) == E) = false := by rw [beq_eq_false_iff_ne]; omega
   go_wp2
   go_quiet (fail)
   have S3 := Lib.hid (And.intro (S2.out.1.keep (below_drewN w2 nq)) (Below.on S2.out.2 (Nat.le_of_lt HPW.out) (below_drewN w2 nq)))
   clear q2 q3 q5 S2 hneq
   revert S3
   generalize w2.drewN nq = w3
   intro S3
   have q0 := Row.cell S3.out.1.row 0
   have q2 := Row.cell S3.out.1.row 2
   have q3 := Row.cell S3.out.1.row 3
   go_wp2
   go_loopw [3] (fun en wr => ∃ j : Nat, i ≤ j ∧ j ≤ b ∧ en = .int .i64 (j : Int) ∧ wr = w3) (fun en _ => b - (intOf en).toNat)
   case atStart => exact ⟨i, Nat.le_refl _, by have := HX.out.1.lt; have := HX.out.2.1; omega, rfl, rfl⟩
   case round =>
    obtain ⟨j, hj1, hj2, rfl, hwr⟩ := hrel
    obtain rfl := hwr.symm
    by_cases hlt : j < b
    ·have hjE : (j : Int) < E := by have := HX.out.1.le; have := HX.out.2.2.1; omega
     have hjT : j < T.size := by have := HX.out.1.le; have := HX.out.1.sz; omega
     have hjT2 : (j : Int) < (T.size : Int) := by omega
     have hj6 : (j : Int) ≤ 60000 := by have := HX.out.2.2.2.1; omega
     have hbj := HX.out.1.b2 j hjT (by have := HX.out.2.1; omega) hlt
     go_wp2_with (go_at_call 102; refine (isBlank_b _ _).mono ?_; rintro e4 w4 ⟨rfl, rfl⟩; rw [hbj])
     go_roundw
     case rel => exact ⟨j + 1, by omega, hlt, by go_num, by first | rfl | trivial⟩
     case measure => simp [intOf]; omega
    ·obtain rfl : j = b := by omega
     have h900 : ¬ 900 < (j : Int) - (i : Int) := by have := HX.out.1.n9; have := HX.out.2.1; omega
     have q4a := Row.cell S3.out.1.row 4
     obtain ⟨g, c, rfl, -⟩ := own_last S3.out.1.own
     obtain ⟨k, hk⟩ : ∃ k, fs.length = k := ⟨_, rfl⟩
     have HK := Lib.hid hk
     have hk6 : (k : Int) ≤ 60 := by have := HFS.out; omega
     clear hk
     rw [HK.out] at S3 q4a
     have q4 : ∀ j, (w3.drewN j).cell? ⟨p, 4, none⟩ = some (.slice (some ⟨g, 0, none⟩) (k + 1) c) := fun j => (Row.keep S3.out.1.row (below_drewN w3 j)).cell 4
     clear q4a
     have hex : j = e ∨ (j < e ∧ ∀ h : j < T.size, blankB T[j] = true) := by
      have := HX.out.1.le
      rcases HX.out.1.b3 with h | h
      ·exact .inl h
      ·rcases Nat.lt_or_ge j e with h2 | h2
       ·exact .inr ⟨h2, h⟩
       ·exact .inl (by omega)
     have hb1 : (i : Int) ≤ (j : Int) := by omega
     have hb2 : (j : Int) ≤ (T.size : Int) := by have := HX.out.1.le; have := HX.out.1.sz; omega
     have hb3 : (i : Int) ≤ (T.size : Int) := by omega
     have hX := HX.out.1.ex
     rw [HX.out.2.1] at hX
     rcases hex with hje | ⟨hje, hbk⟩
     case' inl =>
      have hjE : ¬ (j : Int) < E := by have := HX.out.2.2.1; omega
      clear hje
      go_wp2
     case' inr =>
      have hjE : (j : Int) < E := by have := HX.out.2.2.1; omega
      have hjT : j < T.size := by have := HX.out.1.sz; omega
      have hjT2 : (j : Int) < (T.size : Int) := by omega
      have hbk2 := hbk hjT
      clear hbk
      go_wp2_with (go_at_call 102; refine (isBlank_b _ _).mono ?_; rintro e4 w4 ⟨rfl, rfl⟩; rw [hbk2])
     all_goals
      go_quiet (fail)
      have h5 := S3.out.1.keep (below_drewN w3 nq)
      have b5 := Below.on S3.out.2 (Nat.le_of_lt HPW.out) (below_drewN w3 nq)
      clear q0 q2 q3 q4 S3 hjE
      revert h5 b5
      generalize w3.drewN nq = w5
      intro h5 b5
      by_cases hbd : bd = []
      case' pos =>
       subst hbd
       obtain ⟨hc5, hf5, hs5⟩ := h5.last HK.out
       obtain ⟨B5, hB5⟩ : ∃ B, tx [] = B := ⟨_, rfl⟩
       have hem : B5.toList.isEmpty = true := by rw [← hB5, ByteArray.toList_eq]; rfl
       have hz5 : B5.size ≤ 901 := by rw [← hB5, tx_size]; decide
       obtain ⟨y5, hy5⟩ : ∃ y : List UInt8, y = x := ⟨_, rfl⟩
       have e14' : B5 ++ tx x = tx y5 := by rw [hy5, ← hB5, tx_app]; rfl
       have hy6 : y5 = yy := by rw [← HY0.out, if_pos rfl, hy5]
       have hs6 := hs5 y5
       rw [hB5] at hc5
       have S5 := Lib.hid (And.intro h5 (And.intro hc5 (And.intro hs6 hf5)))
       have HBW := Lib.hid b5
       have HY := Lib.hid hy6
       clear h5 b5 hf5 hs5 hs6 hB5 hy5 hy6
       go_wp2
      case' neg =>
       obtain ⟨hc5, hf5, hs5⟩ := h5.last HK.out
       obtain ⟨B0, hB0⟩ : ∃ B, tx bd = B := ⟨_, rfl⟩
       obtain ⟨B5, hB5⟩ : ∃ B, tx (bd ++ [32]) = B := ⟨_, rfl⟩
       have hem : B0.toList.isEmpty = false := by
        rw [ByteArray.toList_eq, Bool.eq_false_iff]
        intro e
        have : bl B0 = [] := List.isEmpty_iff.1 e
        rw [← hB0, bl_tx] at this
        exact hbd this
       have hz0 : B0.size ≤ 900 := by rw [← hB0, tx_size]; exact HX.out.2.2.2.2
       have hz5 : B5.size ≤ 901 := by rw [← hB5, tx_size, List.length_append]; have := HX.out.2.2.2.2; simp; omega
       have g13 : ¬ 9223372036854775807 < B0.size + 1 := by omega
       have e13 : B0 ++ (⟨#[32]⟩ : ByteArray) = B5 := by rw [← hB0, ← hB5, show (⟨#[32]⟩ : ByteArray) = tx [32] from rfl, tx_app]
       have z5 := hf5 w5 (Below.refl _ _)
       rw [hB0] at hc5
       have HS := Lib.hid (And.intro (hs5 (bd ++ [32]) w5 (Below.refl _ _)) b5)
       have HB5 := Lib.hid hB5
       have HBD := Lib.hid hbd
       clear h5 b5 hf5 hs5 hB5 hB0 hbd
       go_wp2
       have h5 := HS.out.1.1
       have b5 := HS.out.2.trans HS.out.1.2
       rw [HB5.out] at h5 b5
       clear HS z5 hc5 g13 e13 hz0 hem
       revert h5 b5
       generalize w5.setCell ⟨g, k * 2 + 1, none⟩ (.string B5) = w5
       intro h5 b5
       obtain ⟨hc5, hf5, hs5⟩ := h5.last HK.out
       obtain ⟨y5, hy5⟩ : ∃ y : List UInt8, y = (bd ++ [32]) ++ x := ⟨_, rfl⟩
       have e14' : B5 ++ tx x = tx y5 := by rw [hy5, ← HB5.out, tx_app]
       have hy6 : y5 = yy := by rw [← HY0.out, if_neg HBD.out, hy5]; simp
       have hs6 := hs5 y5
       rw [HB5.out] at hc5
       have S5 := Lib.hid (And.intro h5 (And.intro hc5 (And.intro hs6 hf5)))
       have HBW := Lib.hid b5
       have HY := Lib.hid hy6
       clear h5 b5 hf5 hs5 hs6 hy5 hy6 HB5 HBD
      all_goals
       obtain ⟨X, hXx⟩ : ∃ X, tx x = X := ⟨_, rfl⟩
       obtain ⟨Y5, hY5⟩ : ∃ Y, tx y5 = Y := ⟨_, rfl⟩
       have hzX : X.size ≤ 900 := by rw [← hXx, ← hX, ByteArray.size_extract]; have := HX.out.1.n9; have := HX.out.2.1; omega
       have g14 : ¬ 9223372036854775807 < B5.size + X.size := by omega
       rw [hXx, hY5] at e14'
       rw [hY5] at S5
       rw [hXx] at hX
       have e14 := e14'
       clear e14' hXx hY5 hc5
       refine AnyO.wp_anyI (by kernel_rfl) (by kernel_rfl) (AnyO.InvG (σ := Unit) (fun σ => AnyO.pvL [some (.pointer (some ⟨g, k * 2, none⟩)), some (.pointer (some ⟨g, k * 2, none⟩)), some (.pointer (some ⟨g, k * 2 + 1, none⟩)), some (.string B5), some (.pointer (some ⟨p, 0, none⟩)), some (.pointer (some ⟨p, 0, none⟩)), some (.pointer (some ⟨p, 0, none⟩)), some (.string T), some (.pointer (some ⟨p, 0, none⟩)), some (.pointer (some ⟨p, 0, none⟩)), some (.pointer (some ⟨p, 3, none⟩)), some (.int .i64 (i : Int)), some (.int .i64 (j : Int)), some (.string X), some (.string Y5), some (.pointer (some ⟨g, k * 2, none⟩)), some (.pointer (some ⟨g, k * 2 + 1, none⟩)), none]) (fun _ D u => WF p T F E (i : Int) (.slice (some ⟨g, 0, none⟩) (k + 1) c) fs nm y5 w5 u (D 17))) (AnyO.InvG.start (g := ()) (below_drew _)) ?_ ?_
       ·intro i hi
        have hi2 : i = 3 ∨ i = 7 ∨ i = 11 ∨ i = 17 ∨ i = 0 ∨ i = 1 ∨ i = 2 ∨ i = 4 ∨ i = 5 ∨ i = 6 ∨ i = 8 ∨ i = 9 ∨ i = 10 ∨ i = 12 ∨ i = 13 ∨ i = 14 ∨ i = 15 ∨ i = 16 := by simp only [List.size_toArray, List.length_cons, List.length_nil] at hi; omega
        clear hi
        rcases hi2 with rfl | rfl | rfl | rfl | rfl | rfl | rfl | rfl | rfl | rfl | rfl | rfl | rfl | rfl | rfl | rfl | rfl | rfl
        ·refine AnyO.I rfl [2] ?_; rintro D vs u σ Q h0 hC hp ac hb K hK
         have s116 : _ = _ := AnyO.sv 116 2 hb hp Q
         have hf17 := AnyO.fls (hC.out 17) h0 (by kernel_rfl)
         have hst := Q.out.2
         rw [hf17] at hst
         have rr : u.cell? ⟨g, k * 2 + 1, none⟩ = some (.string B5) := cell_below S5.out.2.1 hst
         clear hst hf17
         go_simp; exact hK _ _ (AnyO.InvG.step (g := σ) Q.out.1 rfl Q.out.2)
        ·refine AnyO.I rfl [6] ?_; rintro D vs u σ Q h0 hC hp ac hb K hK
         have s120 : _ = _ := AnyO.sv 120 6 hb hp Q
         have hf17 := AnyO.fls (hC.out 17) h0 (by kernel_rfl)
         have hst := Q.out.2
         rw [hf17] at hst
         have rr : u.cell? ⟨p, 0, none⟩ = some (.string T) := (Row.keep S5.out.1.row hst).cell 0
         clear hst hf17
         go_simp; exact hK _ _ (AnyO.InvG.step (g := σ) Q.out.1 rfl Q.out.2)
        ·refine AnyO.I rfl [10] ?_; rintro D vs u σ Q h0 hC hp ac hb K hK
         have s124 : _ = _ := AnyO.sv 124 10 hb hp Q
         have hf17 := AnyO.fls (hC.out 17) h0 (by kernel_rfl)
         have hst := Q.out.2
         rw [hf17] at hst
         have rr : u.cell? ⟨p, 3, none⟩ = some (.int .i64 (i : Int)) := (Row.keep S5.out.1.row hst).cell 3
         clear hst hf17
         go_simp; exact hK _ _ (AnyO.InvG.step (g := σ) Q.out.1 rfl Q.out.2)
        ·refine AnyO.I rfl [16, 14, 0, 1, 2, 3, 4, 5, 6, 7, 8, 9, 10, 11, 12, 13, 14] ?_; rintro D vs u σ Q h0 hC hp ac hb K hK
         have s130 : _ = _ := AnyO.sv 130 16 hb hp Q
         have s128 : _ = _ := AnyO.sv 128 14 hb hp Q
         have hst := Q.out.2
         rw [h0] at hst
         have rr1 : u.frozen? ⟨g, k * 2 + 1, none⟩ = false := S5.out.2.2.2 u hst
         have rr2 : u.cell? ⟨g, k * 2 + 1, none⟩ = some (.string B5) := cell_below S5.out.2.1 hst
         have HST := Lib.hid hst
         clear hst
         go_simp
         exact hK undef _ (AnyO.InvG.step (g := ()) Q.out.1 trivial (by rw [show AnyO.addD D 17 17 = true from rfl]; exact S5.out.2.2.1 u HST.out))
        all_goals
         refine AnyO.J rfl ?_; rintro D vs u σ Q h0 hC hp ac hb K hK
         try have s4 : ac.tmps[4]?.getD undef = .pointer (some ⟨g, k * 2, none⟩) := by rw [hb.out]; kernel_rfl
         try have s114 : _ = _ := AnyO.sv 114 0 hb hp Q
         try have s115 : _ = _ := AnyO.sv 115 1 hb hp Q
         try have s0 : ac.tmps[0]?.getD undef = .pointer (some ⟨p, 0, none⟩) := by rw [hb.out]; kernel_rfl
         try have s118 : _ = _ := AnyO.sv 118 4 hb hp Q
         try have s119 : _ = _ := AnyO.sv 119 5 hb hp Q
         try have s122 : _ = _ := AnyO.sv 122 8 hb hp Q
         try have s123 : _ = _ := AnyO.sv 123 9 hb hp Q
         try have s3 : ac.tmps[3]?.getD undef = .int .i64 (j : Int) := by rw [hb.out]; kernel_rfl
         try have s121 : _ = _ := AnyO.sv 121 7 hb hp Q
         try have s125 : _ = _ := AnyO.sv 125 11 hb hp Q
         try have s126 : _ = _ := AnyO.sv 126 12 hb hp Q
         try have s117 : _ = _ := AnyO.sv 117 3 hb hp Q
         try have s127 : _ = _ := AnyO.sv 127 13 hb hp Q
         try have s129 : _ = _ := AnyO.sv 129 15 hb hp Q
         have rr1_0 := hX
         have rr2_0 := hb1
         have rr3_0 := hb2
         have rr4_0 := hb3
         have rr1_1 := g14
         have rr2_1 := e14
         go_simp
         exact hK _ _ (AnyO.InvG.step (g := σ) Q.out.1 rfl Q.out.2)
       ·intro D vs u hI hD
        obtain ⟨σ, hP, hW⟩ := hI
        have e0 : _ = _ := hP 0 (hD 0 (by decide))
        have e1 : _ = _ := hP 1 (hD 1 (by decide))
        have e2 : _ = _ := hP 2 (hD 2 (by decide))
        have e3 : _ = _ := hP 3 (hD 3 (by decide))
        have e4 : _ = _ := hP 4 (hD 4 (by decide))
        have e5 : _ = _ := hP 5 (hD 5 (by decide))
        have e6 : _ = _ := hP 6 (hD 6 (by decide))
        have e7 : _ = _ := hP 7 (hD 7 (by decide))
        have e8 : _ = _ := hP 8 (hD 8 (by decide))
        have e9 : _ = _ := hP 9 (hD 9 (by decide))
        have e10 : _ = _ := hP 10 (hD 10 (by decide))
        have e11 : _ = _ := hP 11 (hD 11 (by decide))
        have e12 : _ = _ := hP 12 (hD 12 (by decide))
        have e13 : _ = _ := hP 13 (hD 13 (by decide))
        have e14 : _ = _ := hP 14 (hD 14 (by decide))
        have e15 : _ = _ := hP 15 (hD 15 (by decide))
        have e16 : _ = _ := hP 16 (hD 16 (by decide))
        rw [show D 17 = true from hD 17 (by decide)] at hW
        have HW := Lib.hid hW
        clear hW hP hD
        rw [puts_range [some 114, some 115, some 116, some 117, some 118, some 119, some 120, some 121, some 122, some 123, some 124, some 125, some 126, some 127, some 128, some 129, some 130, none] (by kernel_rfl)]
        simp only [putL, Nat.reduceAdd, e0, e1, e2, e3, e4, e5, e6, e7, e8, e9, e10, e11, e12, e13, e14, e15, e16]
        clear e0 e1 e2 e3 e4 e5 e6 e7 e8 e9 e10 e11 e12 e13 e14 e15 e16
        have hq := HW.out
        clear HW
        have hq2 : PsS p T F E (i : Int) _ _ u ∧ Below p w5 u := hq
        clear hq
        have r3 := Row.cell hq2.1.row 3
        have z3 := Row.fz hq2.1.row 3
        have S6 := Lib.hid hq2
        clear hq2
        go_simp
        go_wp2
        go_ret
        refine ⟨rfl, ?_, ?_⟩
        ·rw [← HY.out, HK.out]
         exact ⟨Row.set S6.out.1.row 3 _, S6.out.1.own.one (One.set 3 _) (Nat.lt_succ_self _)⟩
        ·exact (HBW.out.trans S6.out.2).setCell (Nat.le_refl _) _
end Go.Proofs.YtibelollgdnidaaGreatDoor
