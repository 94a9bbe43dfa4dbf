/- Articles and outcomes of the sender compared; lists of them; the bytes said. -/
import Derived.Test.YtlelecnafdddhaaDoorDoP
namespace Go.Proofs.YtlelecnafdddhaaDoor
open Go.RowKit
section
variable (w : World)
theorem eqid40 (d : Nat) (a b : Id) : (Op.equalIn (d + 2) 40 (vI a) (vI b)).run Tryd.prog w = .ok (decide (a = b)) w := by
  obtain ⟨i, h1, h2⟩ := info5
  unfold vI cI
  rw [run_equalIn_bytes w d 32 40 5 i a.1 b.1 Tryd.underlying40 Tryd.underlying5 h1 h2 a.2 b.2]
  simp [Subtype.ext_iff]
theorem idpart40 (l : List Value) (i : Nat) (x : Id) (h : (l.drop i).take 32 = cI x) : (part 40 l.toArray i).run Tryd.prog w = .ok (vI x) w := by
  rw [part_a w 40 5 _ i 32 Tryd.underlying40 size40, list_ext l i 32 _ h]
  rfl
theorem eqs86 (a b : Art) : (Op.eqFields 9999 (cA a).toArray (cA b).toArray (Tryd.prog.fieldsOf 86).toList).run Tryd.prog w = .ok (decide (a = b)) w := by
  simp only [Program.fieldsOf, Tryd.underlying86]
  refine Eq.trans (eqF_cons w (by decide) (idpart40 w _ 0 a.1 (cA_id a)) (idpart40 w _ 0 b.1 (cA_id b)) (eqid40 w 9997 _ _) (eqF_cons w (by decide) (part_c w 9 _ 32 _ _ Tryd.underlying9 rfl (qA_hi a)) (part_c w 9 _ 32 _ _ Tryd.underlying9 rfl (qA_hi b)) (run_equalIn_string w 9998 9 _ _ Tryd.underlying9) (eqF_nil w 9999 _ _))) ?_
  congr 1
  rw [Bool.eq_iff_iff]
  simp only [Bool.and_eq_true, decide_eq_true_eq, beqL, and_true]
  obtain ⟨a1, a2⟩ := a; obtain ⟨b1, b2⟩ := b; simp [Prod.mk.injEq]
theorem prel86 : Tryd.prog.underlying 86 = some (.struct (Tryd.prog.fieldsOf 86)) := by rw [Program.fieldsOf, Tryd.underlying86]
theorem held86 : Tryd.prog.stoodInHeld 86 = false := by kernel_rfl
theorem guard86 : Tryd.prog.eqGuardType Tryd.prog.depth 86 = false := by kernel_rfl
@[go_sem] theorem eqGuard86 (op : BinOp) (x y : Operand) (a b : Art) : (eqGuard op 86 x y (vA a) (vA b)).run Tryd.prog w = .ok () w := run_eqGuard_agg w op 86 x y _ _ guard86
@[go_sem] theorem eql86 (a b : Art) : (binOp .eql 86 (vA a) (vA b)).run Tryd.prog w = .ok (.bool (decide (a = b))) w := by
  unfold vA
  rw [run_eql_struct, run_equalIn_struct w 9999 86 _ _ prel86 held86, eqs86]
  rfl
@[go_sem] theorem neq86 (a b : Art) : (binOp .neq 86 (vA a) (vA b)).run Tryd.prog w = .ok (.bool (!decide (a = b))) w := by
  unfold vA
  rw [run_neq_struct, run_equalIn_struct w 9999 86 _ _ prel86 held86, eqs86]
  rfl
theorem eqs68 (a b : Out) : (Op.eqFields 9999 (cO a).toArray (cO b).toArray (Tryd.prog.fieldsOf 68).toList).run Tryd.prog w = .ok (decide (a = b)) w := by
  simp only [Program.fieldsOf, Tryd.underlying68]
  refine Eq.trans (eqF_cons w (by decide) (idpart40 w _ 0 a.1 (qO_id a)) (idpart40 w _ 0 b.1 (qO_id b)) (eqid40 w 9997 _ _) (eqF_cons w (by decide) (part_c w 3 _ 32 _ _ Tryd.underlying3 rfl (qO_hi a 0)) (part_c w 3 _ 32 _ _ Tryd.underlying3 rfl (qO_hi b 0)) (run_equalIn_int w 9998 3 .i64 .i64 _ _ Tryd.underlying3) (eqF_cons w (by decide) (part_c w 24 _ 33 _ _ Tryd.underlying24 rfl (qO_hi a 1)) (part_c w 24 _ 33 _ _ Tryd.underlying24 rfl (qO_hi b 1)) (run_equalIn_int w 9998 24 .i64 .i64 _ _ Tryd.underlying24) (eqF_nil w 9999 _ _)))) ?_
  congr 1
  rw [Bool.eq_iff_iff]
  simp only [Bool.and_eq_true, beq_iff_eq, decide_eq_true_eq, and_true]
  obtain ⟨a1, a2, a3⟩ := a; obtain ⟨b1, b2, b3⟩ := b; simp [Prod.mk.injEq]
theorem prel68 : Tryd.prog.underlying 68 = some (.struct (Tryd.prog.fieldsOf 68)) := by rw [Program.fieldsOf, Tryd.underlying68]
theorem held68 : Tryd.prog.stoodInHeld 68 = false := by kernel_rfl
@[go_sem] theorem neq68 (a b : Out) : (binOp .neq 68 (vO a) (vO b)).run Tryd.prog w = .ok (.bool (!decide (a = b))) w := by
  unfold vO
  rw [run_neq_struct, run_equalIn_struct w 9999 68 _ _ prel68 held68, eqs68]
  rfl

end
set_option maxRecDepth 100000 in
set_option maxHeartbeats 1600000 in
theorem equal48 (A B : Option Addr) (n m c d : Nat) (xs ys : List Art) (w : World) (hx : xs.length = n) (hy : ys.length = m) (sx : Sl w cA A xs) (sy : Sl w cA B ys) (hn : n ≤ 100000) : Calls Tryd.prog 48 #[.slice A n c, .slice B m d] w fun e w' => e = .returned (.bool (decide (xs = ys))) ∧ Below w.heap.size w w' := by
  have HX := Lib.hid (And.intro hx (And.intro hy (And.intro sx (And.intro sy hn))))
  clear sx sy hx hy
  by_cases hnm : n = m
  case neg =>
    have hne : ¬ ((n : Int) = (m : Int)) := by omega
    have hd : decide (xs = ys) = false := decide_eq_false fun e => hnm (by rw [← HX.out.1, ← HX.out.2.1, e])
    rw [hd]
    go_enter Tryd.func48, Tryd.ntmps48
    go_wp2
    go_ret
    exact ⟨rfl, Below.refl _ _⟩
  subst hnm
  obtain ⟨q, hq⟩ : ∃ q, decide (xs = ys) = q := ⟨_, rfl⟩
  rw [hq]
  have HQ := Lib.hid hq
  clear hq
  go_enter Tryd.func48, Tryd.ntmps48
  go_wp2
  go_loopw [13] (fun i wr => ∃ (k : Nat), k ≤ n ∧ i = .int .i64 (k : Int) ∧ Below w.heap.size w wr ∧ xs.take k = ys.take k) (fun i _ => n - (intOf i).toNat)
  case atStart => exact ⟨0, Nat.zero_le _, rfl, Below.refl _ _, rfl⟩
  case round =>
    obtain ⟨k, hk, rfl, hb, ht⟩ := hrel
    have HT := Lib.hid (And.intro hb ht)
    clear ht
    by_cases hlt : k < n
    · have hlk : (k : Int) < (n : Int) := by omega
      have hl1 : k < xs.length := by rw [HX.out.1]; exact hlt
      have hl2 : k < ys.length := by rw [HX.out.2.1]; exact hlt
      obtain ⟨ad1, rfl, at1⟩ := Sl.at_ cA_length (HX.out.2.2.1.keep hb) hl1
      obtain ⟨ad2, rfl, at2⟩ := Sl.at_ cA_length (HX.out.2.2.2.1.keep hb) hl2
      have o1 := at1.ok
      have d1 := at1.rd
      have o2 := at2.ok
      have d2 := at2.rd
      rw [cA_length] at o1 d1 o2 d2
      change rdA _ _ _ = vA _ at d1
      change rdA _ _ _ = vA _ at d2
      have HS := Lib.hid (And.intro (List.take_succ_eq_append_getElem hl1) (List.take_succ_eq_append_getElem hl2))
      clear at1 at2
      generalize (xs[k]'hl1) = x at d1 HS
      generalize (ys[k]'hl2) = y at d2 HS
      clear hb
      by_cases hxy : x = y
      · subst hxy
        go_wp2
        go_quiet (fail)
        go_wp2
        go_roundw
        case rel => exact ⟨k + 1, hlt, by go_num, Below.step HT.out.1 (below_drewN _ _), by rw [HS.out.1, HS.out.2, HT.out.2]⟩
        case measure => simp [intOf] <;> omega
      · have hqf : q = false := by
          rw [← HQ.out]
          refine decide_eq_false fun e => hxy ?_
          have h1 := HS.out.1
          have h2 := HS.out.2
          rw [e] at h1
          have h3 := h1.symm.trans h2
          simpa using h3
        subst hqf
        have hxy2 : (!decide (x = y)) = true := by simp [hxy]
        go_wp2
        go_quiet (fail)
        go_wp2
        go_ret
        exact ⟨rfl, Below.step HT.out.1 (below_drewN _ _)⟩
    · have hkn : k = n := by omega
      subst hkn
      have hqt : q = true := by
        rw [← HQ.out]
        refine decide_eq_true ?_
        have h := HT.out.2
        rwa [List.take_of_length_le (by rw [HX.out.1]; exact Nat.le_refl _), List.take_of_length_le (by rw [HX.out.2.1]; exact Nat.le_refl _)] at h
      subst hqt
      clear hb
      go_wp2
      go_ret
      exact ⟨rfl, HT.out.1⟩
set_option maxRecDepth 100000 in
set_option maxHeartbeats 1600000 in
theorem equal49 (A B : Option Addr) (n m c d : Nat) (xs ys : List Out) (w : World) (hx : xs.length = n) (hy : ys.length = m) (sx : Sl w cO A xs) (sy : Sl w cO B ys) (hn : n ≤ 100000) : Calls Tryd.prog 49 #[.slice A n c, .slice B m d] w fun e w' => e = .returned (.bool (decide (xs = ys))) ∧ Below w.heap.size w w' := by
  have HX := Lib.hid (And.intro hx (And.intro hy (And.intro sx (And.intro sy hn))))
  clear sx sy hx hy
  by_cases hnm : n = m
  case neg =>
    have hne : ¬ ((n : Int) = (m : Int)) := by omega
    have hd : decide (xs = ys) = false := decide_eq_false fun e => hnm (by rw [← HX.out.1, ← HX.out.2.1, e])
    rw [hd]
    go_enter Tryd.func49, Tryd.ntmps49
    go_wp2
    go_ret
    exact ⟨rfl, Below.refl _ _⟩
  subst hnm
  obtain ⟨q, hq⟩ : ∃ q, decide (xs = ys) = q := ⟨_, rfl⟩
  rw [hq]
  have HQ := Lib.hid hq
  clear hq
  go_enter Tryd.func49, Tryd.ntmps49
  go_wp2
  go_loopw [13] (fun i wr => ∃ (k : Nat), k ≤ n ∧ i = .int .i64 (k : Int) ∧ Below w.heap.size w wr ∧ xs.take k = ys.take k) (fun i _ => n - (intOf i).toNat)
  case atStart => exact ⟨0, Nat.zero_le _, rfl, Below.refl _ _, rfl⟩
  case round =>
    obtain ⟨k, hk, rfl, hb, ht⟩ := hrel
    have HT := Lib.hid (And.intro hb ht)
    clear ht
    by_cases hlt : k < n
    · have hlk : (k : Int) < (n : Int) := by omega
      have hl1 : k < xs.length := by rw [HX.out.1]; exact hlt
      have hl2 : k < ys.length := by rw [HX.out.2.1]; exact hlt
      obtain ⟨ad1, rfl, at1⟩ := Sl.at_ cO_length (HX.out.2.2.1.keep hb) hl1
      obtain ⟨ad2, rfl, at2⟩ := Sl.at_ cO_length (HX.out.2.2.2.1.keep hb) hl2
      have o1 := at1.ok
      have d1 := at1.rd
      have o2 := at2.ok
      have d2 := at2.rd
      rw [cO_length] at o1 d1 o2 d2
      change rdA _ _ _ = vO _ at d1
      change rdA _ _ _ = vO _ at d2
      have HS := Lib.hid (And.intro (List.take_succ_eq_append_getElem hl1) (List.take_succ_eq_append_getElem hl2))
      clear at1 at2
      generalize (xs[k]'hl1) = x at d1 HS
      generalize (ys[k]'hl2) = y at d2 HS
      clear hb
      by_cases hxy : x = y
      · subst hxy
        go_wp2
        go_quiet (fail)
        go_wp2
        go_roundw
        case rel => exact ⟨k + 1, hlt, by go_num, Below.step HT.out.1 (below_drewN _ _), by rw [HS.out.1, HS.out.2, HT.out.2]⟩
        case measure => simp [intOf] <;> omega
      · have hqf : q = false := by
          rw [← HQ.out]
          refine decide_eq_false fun e => hxy ?_
          have h1 := HS.out.1
          have h2 := HS.out.2
          rw [e] at h1
          have h3 := h1.symm.trans h2
          simpa using h3
        subst hqf
        have hxy2 : (!decide (x = y)) = true := by simp [hxy]
        go_wp2
        go_quiet (fail)
        go_wp2
        go_ret
        exact ⟨rfl, Below.step HT.out.1 (below_drewN _ _)⟩
    · have hkn : k = n := by omega
      subst hkn
      have hqt : q = true := by
        rw [← HQ.out]
        refine decide_eq_true ?_
        have h := HT.out.2
        rwa [List.take_of_length_le (by rw [HX.out.1]; exact Nat.le_refl _), List.take_of_length_le (by rw [HX.out.2.1]; exact Nat.le_refl _)] at h
      subst hqt
      clear hb
      go_wp2
      go_ret
      exact ⟨rfl, HT.out.1⟩
set_option maxRecDepth 100000 in
set_option maxHeartbeats 400000 in
theorem sent47 (g : Nat) (a : Art) (ch sent : Int) (en : Bool) (w : World) (h : Row w g (cT a ch sent en) 120) : Calls Tryd.prog 47 #[.pointer (some ⟨g, 0, none⟩)] w fun e w' => e = .returned (.int .i64 sent) ∧ w' = w := by
  have h34 := (h.cell 34).trans (cT_34 a ch sent en)
  go_enter Tryd.func47, Tryd.ntmps47
  go_wp2
  go_ret
  exact ⟨rfl, rfl⟩
set_option maxRecDepth 100000 in
set_option maxHeartbeats 400000 in
theorem sent47_nil (w : World) : Calls Tryd.prog 47 #[.pointer none] w fun e w' => e = .returned (.int .i64 0) ∧ w' = w := by
  go_enter Tryd.func47, Tryd.ntmps47
  go_wp2
  go_ret
  exact ⟨rfl, rfl⟩
set_option maxRecDepth 100000 in
set_option maxHeartbeats 400000 in
theorem ended52 (g : Nat) (a : Art) (ch sent : Int) (en : Bool) (w : World) (h : Row w g (cT a ch sent en) 120) : Calls Tryd.prog 52 #[.pointer (some ⟨g, 0, none⟩)] w fun e w' => e = .returned (.bool en) ∧ w' = w := by
  have h35 := (h.cell 35).trans (cT_35 a ch sent en)
  go_enter Tryd.func52, Tryd.ntmps52
  go_wp2
  go_ret
  exact ⟨rfl, rfl⟩
end Go.Proofs.YtlelecnafdddhaaDoor
