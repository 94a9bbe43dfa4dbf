/- Taker's Clone, and Equal of takers that say the same. -/
import Derived.Test.YtgojaelkdpabkaaGreatDoorMRun
import Derived.BigQuiet
namespace Go.Proofs.YtgojaelkdpabkaaGreatDoor
open Go.RowKit
instance instDecPt : DecidableEq Pt := fun a b => decidable_of_iff (a.id = b.id ∧ a.size = b.size ∧ a.state = b.state ∧ a.bytes = b.bytes) (by cases a; cases b; simp [Pt.mk.injEq])
theorem eql_nil34 {P : Program} (w : World) (t e : TypeId) (a : Option Addr) (n c : Nat) (h : P.underlying t = some (.slice e)) : (binOp .eql t (.slice a n c) (.slice none 0 0)).run P w = .ok (.bool a.isNone) w := by
 simp only [binOp]
 simp [Op.equal, Op.maxDepth, Lib.run_equalIn_slice_nil w 9999 t e a n c 0 0 h]
@[go_sem] theorem eqlPA_nil (w : World) (a : Option Addr) (n c : Nat) : (binOp .eql 78 (.slice a n c) (.slice none 0 0)).run Tryz.prog w = .ok (.bool a.isNone) w := eql_nil34 w 78 86 a n c underPAs
section
variable (w : World)
theorem eqsEPA (a b : Pt) : (Op.eqFields 9999 (cA a).toArray (cA b).toArray (Tryz.prog.fieldsOf 86).toList).run Tryz.prog w = .ok (decide (a = b)) w := by
 simp only [Program.fieldsOf, Tryz.underlying86]
 refine Eq.trans (eqF_cons w (by decide) (idpartC w _ 0 a.id (cA_id a)) (idpartC w _ 0 b.id (cA_id b)) (eqidC w 9997 _ _) (eqF_cons w (by decide) (part_c w 3 _ 32 _ _ Tryz.underlying3 rfl (aA_32 a)) (part_c w 3 _ 32 _ _ Tryz.underlying3 rfl (aA_32 b)) (run_equalIn_int w 9998 3 .i64 .i64 _ _ Tryz.underlying3) (eqF_cons w (by decide) (part_c w 3 _ 33 _ _ Tryz.underlying3 rfl (aA_33 a)) (part_c w 3 _ 33 _ _ Tryz.underlying3 rfl (aA_33 b)) (run_equalIn_int w 9998 3 .i64 .i64 _ _ Tryz.underlying3) (eqF_cons w (by decide) (part_c w 9 _ 34 _ _ Tryz.underlying9 rfl (aA_34 a)) (part_c w 9 _ 34 _ _ Tryz.underlying9 rfl (aA_34 b)) (run_equalIn_string w 9998 9 _ _ Tryz.underlying9) (eqF_nil w 9999 _ _))))) ?_
 congr 1
 rw [Bool.eq_iff_iff]
 simp only [Bool.and_eq_true, beq_iff_eq, decide_eq_true_eq, beqL, and_true]
 cases a; cases b; simp [Pt.mk.injEq]
theorem prelEPA : Tryz.prog.underlying 86 = some (.struct (Tryz.prog.fieldsOf 86)) := by rw [Program.fieldsOf, Tryz.underlying86]
theorem heldEPA : Tryz.prog.stoodInHeld 86 = false := by kernel_rfl
theorem guardEPA : Tryz.prog.eqGuardType Tryz.prog.depth 86 = false := by kernel_rfl
@[go_sem] theorem eqGuardEPA (op : BinOp) (x y : Operand) (a b : Pt) : (eqGuard op 86 x y (vA a) (vA b)).run Tryz.prog w = .ok () w := run_eqGuard_agg w op 86 x y _ _ guardEPA
@[go_sem] theorem neqEPA (a b : Pt) : (binOp .neq 86 (vA a) (vA b)).run Tryz.prog w = .ok (.bool (!decide (a = b))) w := by
 unfold vA
 rw [run_neq_struct, run_equalIn_struct w 9999 86 _ _ prelEPA heldEPA, eqsEPA]
 rfl
theorem eqsERA (a b : Pt) : (Op.eqFields 9999 (cA a).toArray (cA b).toArray (Tryz.prog.fieldsOf 98).toList).run Tryz.prog w = .ok (decide (a = b)) w := by
 simp only [Program.fieldsOf, Tryz.underlying98]
 refine Eq.trans (eqF_cons w (by decide) (idpartR w _ 0 a.id (cA_id a)) (idpartR w _ 0 b.id (cA_id b)) (eqidR w 9997 _ _) (eqF_cons w (by decide) (part_c w 3 _ 32 _ _ Tryz.underlying3 rfl (aA_32 a)) (part_c w 3 _ 32 _ _ Tryz.underlying3 rfl (aA_32 b)) (run_equalIn_int w 9998 3 .i64 .i64 _ _ Tryz.underlying3) (eqF_cons w (by decide) (part_c w 3 _ 33 _ _ Tryz.underlying3 rfl (aA_33 a)) (part_c w 3 _ 33 _ _ Tryz.underlying3 rfl (aA_33 b)) (run_equalIn_int w 9998 3 .i64 .i64 _ _ Tryz.underlying3) (eqF_cons w (by decide) (part_c w 9 _ 34 _ _ Tryz.underlying9 rfl (aA_34 a)) (part_c w 9 _ 34 _ _ Tryz.underlying9 rfl (aA_34 b)) (run_equalIn_string w 9998 9 _ _ Tryz.underlying9) (eqF_nil w 9999 _ _))))) ?_
 congr 1
 rw [Bool.eq_iff_iff]
 simp only [Bool.and_eq_true, beq_iff_eq, decide_eq_true_eq, beqL, and_true]
 cases a; cases b; simp [Pt.mk.injEq]
theorem prelERA : Tryz.prog.underlying 98 = some (.struct (Tryz.prog.fieldsOf 98)) := by rw [Program.fieldsOf, Tryz.underlying98]
theorem heldERA : Tryz.prog.stoodInHeld 98 = false := by kernel_rfl
theorem guardERA : Tryz.prog.eqGuardType Tryz.prog.depth 98 = false := by kernel_rfl
@[go_sem] theorem eqGuardERA (op : BinOp) (x y : Operand) (a b : Pt) : (eqGuard op 98 x y (vA a) (vA b)).run Tryz.prog w = .ok () w := run_eqGuard_agg w op 98 x y _ _ guardERA
@[go_sem] theorem neqERA (a b : Pt) : (binOp .neq 98 (vA a) (vA b)).run Tryz.prog w = .ok (.bool (!decide (a = b))) w := by
 unfold vA
 rw [run_neq_struct, run_equalIn_struct w 9999 98 _ _ prelERA heldERA, eqsERA]
 rfl
end
section
set_option maxRecDepth 100000
set_option maxHeartbeats 1600000
theorem equal48 (A B : Option Addr) (n m c d : Nat) (xs ys : List Pt) (w : World) (hx : xs.length = n) (hy : ys.length = m) (sx : Sl w cA A xs) (sy : Sl w cA B ys) (hn : n ≤ 100000) : Calls Tryz.prog 48 #[.slice A n c, .slice B m d] w fun e w' => e = .returned (.bool (decide (xs = ys))) ∧ Below w.heap.size w w' := by
 have HX := Lib.hid (And.intro hx (And.intro hy (And.intro sx (And.intro sy hn))))
 clear sx sy hx hy
 by_cases hnm : n = m
 case neg =>
  have hne : ¬ ((n : Int) = (m : Int)) := by omega
  have hd : decide (xs = ys) = false := decide_eq_false fun e => hnm (by rw [← HX.out.1, ← HX.out.2.1, e])
  rw [hd]
  go_enter Tryz.func48, Tryz.ntmps48
  go_wp2
  go_ret
  exact ⟨rfl, Below.refl _ _⟩
 subst hnm
 obtain ⟨q, hq⟩ : ∃ q, decide (xs = ys) = q := ⟨_, rfl⟩
 rw [hq]
 have HQ := Lib.hid hq
 clear hq
 go_enter Tryz.func48, Tryz.ntmps48
 go_wp2
 go_loopw [13] (fun i wr => ∃ (k : Nat), k ≤ n ∧ i = .int .i64 (k : Int) ∧ Below w.heap.size w wr ∧ xs.take k = ys.take k) (fun i _ => n - (intOf i).toNat)
 case atStart => exact ⟨0, Nat.zero_le _, rfl, Below.refl _ _, rfl⟩
 case round =>
  obtain ⟨k, hk, rfl, hb, ht⟩ := hrel
  have HT := Lib.hid (And.intro hb ht)
  clear ht
  by_cases hlt : k < n
  ·have hlk : (k : Int) < (n : Int) := by omega
   have hl1 : k < xs.length := by rw [HX.out.1]; exact hlt
   have hl2 : k < ys.length := by rw [HX.out.2.1]; exact hlt
   obtain ⟨ad1, rfl, o1, d1, -⟩ := Sl.pt (HX.out.2.2.1.keep hb) hl1
   obtain ⟨ad2, rfl, o2, d2, -⟩ := Sl.pt (HX.out.2.2.2.1.keep hb) hl2
   have HS := Lib.hid (And.intro (List.take_succ_eq_append_getElem hl1) (List.take_succ_eq_append_getElem hl2))
   generalize (xs[k]'hl1) = x at d1 HS
   generalize (ys[k]'hl2) = y at d2 HS
   clear hb
   by_cases hxy : x = y
   ·subst hxy
    go_wp2
    go_quiet (fail)
    go_wp2
    go_roundw
    case rel => exact ⟨k + 1, hlt, by go_num, Below.step HT.out.1 (below_drewN _ _), by rw [HS.out.1, HS.out.2, HT.out.2]⟩
    case measure => simp [intOf] <;> omega
   ·have hqf : q = false := by
     rw [← HQ.out]
     refine decide_eq_false fun e => hxy ?_
     have h1 := HS.out.1
     have h2 := HS.out.2
     rw [e] at h1
     have h3 := h1.symm.trans h2
     simpa using h3
    subst hqf
    have hxy2 : (!decide (x = y)) = true := by simp [hxy]
    go_wp2
    go_quiet (fail)
    go_wp2
    go_ret
    exact ⟨rfl, Below.step HT.out.1 (below_drewN _ _)⟩
  ·have hkn : k = n := by omega
   subst hkn
   have hqt : q = true := by
    rw [← HQ.out]
    refine decide_eq_true ?_
    have h := HT.out.2
    rwa [List.take_of_length_le (by rw [HX.out.1]; exact Nat.le_refl _), List.take_of_length_le (by rw [HX.out.2.1]; exact Nat.le_refl _)] at h
   subst hqt
   clear hb
   go_wp2
   go_ret
   exact ⟨rfl, HT.out.1⟩
theorem clone47 (A : Option Addr) (n c : Nat) (xs : List Pt) (w : World) (hx : xs.length = n) (sx : Sl w cA A xs) (hn : n ≤ 100000) : Calls Tryz.prog 47 #[.slice A n c] w fun e w' => ∃ A' c', e = .returned (.slice A' n c') ∧ Own w' w.heap.size 86 35 cA (.slice A' n c') xs ∧ Below w.heap.size w w' := by
 cases A with
 | none =>
  have he : xs = [] := by
   cases xs with
   | nil => rfl
   | cons a r =>
    obtain ⟨ad, h, _⟩ := sx (by simp)
    cases h
  subst he
  obtain rfl : n = 0 := hx.symm
  go_enter Tryz.func47, Tryz.ntmps47
  go_wp2
  go_ret
  exact ⟨none, 0, rfl, Own.nil _ _ _ _ _, Below.refl _ _⟩
 | some ad =>
  have HX := Lib.hid (And.intro hx (And.intro sx hn))
  clear hx sx
  have hnew := Own.new0 (α := Pt) w w.heap.size 86 35 cA cA_length (Nat.le_refl _)
  have HL := Lib.hid hnew
  clear hnew
  go_enter Tryz.func47, Tryz.ntmps47
  go_wp2_with (at_builtin; refine wpList_append_sl _ rfl (.tmp 5) (.tmp 6) 78 rfl w.heap.size 86 35 64 cA underPAs rowPA (by decide) cA_length cA_one (.slice (some ⟨w.heap.size, 0, none⟩) 0 0) [] rfl HL.out (some ad) n c xs HX.out.1 rfl (HX.out.2.1.keep (below_alloc w _)) (by have := HX.out.2.2; simp; omega) (by have := HX.out.2.2; simp; omega) (below_alloc w _).size ?_)
  intro v2 w2 ho2 hg
  have hb2 := Own.grew HL.out hg (below_alloc w _) (Nat.le_refl _) (below_alloc w _).size
  have ho3 : Own w2 w.heap.size 86 35 cA v2 xs := by simpa using ho2
  obtain ⟨A2, c2, rfl, _, _⟩ := ho3.sl
  rw [HX.out.1] at ho3 ⊢
  have HO := Lib.hid (And.intro ho3 hb2)
  clear ho2 ho3 hg hb2
  go_wp2
  go_ret
  exact ⟨A2, c2, rfl, HO.out.1, HO.out.2⟩
end
def isOwnS {α : Type} (B : Nat) (e : TypeId) (s : Nat) (enc : α → List Value) (n : Nat) (xs : List α) : Value → World → Prop := fun v w => ∃ A c, v = .slice A n c ∧ Own w B e s enc (.slice A n c) xs
theorem Mono.ownS {α : Type} (B : Nat) (e : TypeId) (s : Nat) (enc : α → List Value) (n : Nat) (xs : List α) : Mono (isOwnS B e s enc n xs) := fun _ _ _ hb ⟨A, c, h1, h2⟩ => ⟨A, c, h1, Own.keep h2 hb⟩
theorem clone_at {w w4 w9 : World} {k : Nat} {s : Tk} {va vk : SlV} {A B : Option Addr} {ca cb : Nat} (hk : Row w9 k (cT ⟨s.win, s.opn, va, vk⟩) 80) (hk4 : k < w4.heap.size) (hwk : w.heap.size ≤ k) (ha : Own w9 (k + 1) 86 35 cA (.slice A s.act.length ca) s.act) (hal : ∀ ad, A = some ad → ad.block < w4.heap.size) (hb : Own w9 w4.heap.size 86 35 cA (.slice B s.kept.length cb) s.kept) (hbw : Below w.heap.size w w9) :
  w9.frozen? ⟨k, 2, none⟩ = false ∧ w9.cell? ⟨k, 2, none⟩ = some (.slice va.1 va.2.1 va.2.2) ∧ (w9.setCell ⟨k, 2, none⟩ (.slice A s.act.length ca)).frozen? ⟨k, 3, none⟩ = false ∧ (w9.setCell ⟨k, 2, none⟩ (.slice A s.act.length ca)).cell? ⟨k, 3, none⟩ = some (.slice vk.1 vk.2.1 vk.2.2) ∧ ∃ F2, TkAt k s F2 ((w9.setCell ⟨k, 2, none⟩ (.slice A s.act.length ca)).setCell ⟨k, 3, none⟩ (.slice B s.kept.length cb)) ∧ (∀ j ∈ F2, w.heap.size ≤ j ∧ j < ((w9.setCell ⟨k, 2, none⟩ (.slice A s.act.length ca)).setCell ⟨k, 3, none⟩ (.slice B s.kept.length cb)).heap.size) ∧ Below w.heap.size w ((w9.setCell ⟨k, 2, none⟩ (.slice A s.act.length ca)).setCell ⟨k, 3, none⟩ (.slice B s.kept.length cb)) := by
 have o1 : One k w9 (w9.setCell ⟨k, 2, none⟩ (.slice A s.act.length ca)) := One.set 2 _
 have r1 : Row (w9.setCell ⟨k, 2, none⟩ (.slice A s.act.length ca)) k (cT ⟨s.win, s.opn, (A, s.act.length, ca), vk⟩) 80 := hk.set 2 _
 have o2 : One k (w9.setCell ⟨k, 2, none⟩ (.slice A s.act.length ca)) ((w9.setCell ⟨k, 2, none⟩ (.slice A s.act.length ca)).setCell ⟨k, 3, none⟩ (.slice B s.kept.length cb)) := One.set 3 _
 have r2 : Row ((w9.setCell ⟨k, 2, none⟩ (.slice A s.act.length ca)).setCell ⟨k, 3, none⟩ (.slice B s.kept.length cb)) k (cT ⟨s.win, s.opn, (A, s.act.length, ca), (B, s.kept.length, cb)⟩) 80 := r1.set 3 _
 have o := o1.trans o2
 have h1 : ∀ ad, A = some ad → k < ad.block ∧ ad.block < w9.heap.size ∧ ad.block < w4.heap.size := fun ad e => by
  have := Own.lt ha ad.block (by rw [e]; rfl)
  exact ⟨by omega, this.2, hal ad e⟩
 have h2 : ∀ ad, B = some ad → w4.heap.size ≤ ad.block ∧ ad.block < w9.heap.size := fun ad e => Own.lt hb ad.block (by rw [e]; rfl)
 refine ⟨hk.fz 2, hk.cell 2, r1.fz 3, r1.cell 3, k :: (blkL (A, s.act.length, ca) ++ blkL (B, s.kept.length, cb)), ⟨(A, s.act.length, ca), (B, s.kept.length, cb), r2, ?_, ?_, List.mem_cons_self, fun ad e => ⟨List.mem_cons_of_mem _ (List.mem_append_left _ (mem_blk e)), ?_, fun ad' e' => ?_⟩, fun ad e => ⟨List.mem_cons_of_mem _ (List.mem_append_right _ (mem_blk e)), ?_⟩⟩, fun j hj => ?_, ?_⟩
 ·refine (ha.mono (Nat.zero_le _)).same fun j e => ?_
  obtain ⟨ad, e1, rfl⟩ := blk_of (v := (A, s.act.length, ca)) e
  exact o.out _ (h1 ad e1).2.1 (by have := (h1 ad e1).1; omega)
 ·refine (hb.mono (Nat.zero_le _)).same fun j e => ?_
  obtain ⟨ad, e1, rfl⟩ := blk_of (v := (B, s.kept.length, cb)) e
  exact o.out _ (h2 ad e1).2 (by have := (h2 ad e1).1; omega)
 ·have := (h1 ad e).1; omega
 ·have := (h1 ad e).2.2; have := (h2 ad' e').1; omega
 ·have := (h2 ad e).1; omega
 ·have hsz := o.size
  have hkl := hk.lt
  rcases List.mem_cons.1 hj with rfl | hj
  ·exact ⟨hwk, by omega⟩
  ·rcases List.mem_append.1 hj with hj | hj
   ·obtain ⟨ad, e, rfl⟩ := of_mem_blk hj
    have := h1 ad e
    exact ⟨by omega, by omega⟩
   ·obtain ⟨ad, e, rfl⟩ := of_mem_blk hj
    have := h2 ad e
    exact ⟨by omega, by omega⟩
 ·exact Below.trans hbw (o.below hwk hbw.size)

set_option maxRecDepth 100000 in
set_option maxHeartbeats 1600000 in
theorem clone27 (b : Nat) (s : Tk) (F : List Nat) (w : World) (h : TkAt b s F w) (ha : s.act.length ≤ 100) (hk : s.kept.length ≤ 100) : Calls Tryz.prog 27 #[.pointer (some ⟨b, 0, none⟩)] w fun e w' => ∃ k F2, e = .returned (.pointer (some ⟨k, 0, none⟩)) ∧ TkAt k s F2 w' ∧ (∀ j ∈ F2, w.heap.size ≤ j ∧ j < w'.heap.size) ∧ Below w.heap.size w w' := by
 obtain ⟨va, vk, h⟩ := h
 obtain ⟨k, W1, W2, hk0, hW1, rok, hW2, hrow, hb, -⟩ := row_made (ds := cT ⟨s.win, s.opn, va, vk⟩) (t := 80) w (cT_length zT)
 rw [show w.alloc (.cells (cT zT).toArray 80) = w.alloc (.cells (aT zT) 80) from rfl] at hW1
 rw [show W1.setRow k (cT ⟨s.win, s.opn, va, vk⟩).toArray = W1.setRow k (aT ⟨s.win, s.opn, va, vk⟩) from rfl] at hW2
 have lk := Row.okw h.row (cT_length _)
 have rr1 := lk.1
 have rr2 : rdA w ⟨b, 0, none⟩ 4 = vT ⟨s.win, s.opn, va, vk⟩ := lk.2
 obtain ⟨na, hna⟩ : ∃ na, s.act.length = na := ⟨_, rfl⟩
 obtain ⟨nk, hnk⟩ : ∃ nk, s.kept.length = nk := ⟨_, rfl⟩
 have HN := Lib.hid (And.intro (h.la.trans hna) (And.intro (h.lk.trans hnk) (And.intro hna (And.intro hnk (And.intro (show na ≤ 100 by omega) (show nk ≤ 100 by omega))))))
 have HT := Lib.hid (And.intro h trivial)
 have HB2 := Lib.hid (And.intro hrow hb)
 have HK0 := Lib.hid (show w.heap.size ≤ k by omega)
 obtain ⟨rv, hrv⟩ : ∃ rv : Rt, (⟨s.win, s.opn, va, vk⟩ : Rt) = rv := ⟨_, rfl⟩
 rw [hrv] at rr2 hW2
 clear h hrow hb lk hna hnk ha hk hrv
 go_enter Tryz.func27, Tryz.ntmps27
 go_wp2
 refine AnyO.wp_any_tail 9 (by kernel_rfl) (by kernel_rfl) (by kernel_rfl) (by kernel_rfl) (by kernel_rfl) (by kernel_rfl) (pstP [isV (.pointer (some ⟨b, 0, none⟩)), isV (.pointer (some ⟨b, 0, none⟩)), isV (.pointer (some ⟨b, 2, none⟩)), isV (.slice va.1 na va.2.2), isOwnS (k + 1) 86 35 cA na s.act, isV (.pointer (some ⟨b, 0, none⟩)), isV (.pointer (some ⟨b, 0, none⟩)), isV (.pointer (some ⟨b, 3, none⟩)), isV (.slice vk.1 nk vk.2.2)]) (MonoL.cons (Mono.v _) (MonoL.cons (Mono.v _) (MonoL.cons (Mono.v _) (MonoL.cons (Mono.v _) (MonoL.cons (Mono.ownS _ _ _ _ _ _) (MonoL.cons (Mono.v _) (MonoL.cons (Mono.v _) (MonoL.cons (Mono.v _) (MonoL.cons (Mono.v _) MonoL.nil))))))))) ?_ ?_
 ·intro i hi
  have hi2 : i = 4 ∨ i = 0 ∨ i = 1 ∨ i = 2 ∨ i = 3 ∨ i = 5 ∨ i = 6 ∨ i = 7 ∨ i = 8 := by omega
  clear hi
  rcases hi2 with rfl | rfl | rfl | rfl | rfl | rfl | rfl | rfl | rfl
  ·refine AnyO.S rfl [3] ?_; intro vs u hE hp ac hb K hK
   have s12 : _ = _ := AnyO.sw 12 3 hb hp
   go_simp
   go_at_call 47
   refine (clone47 va.1 na va.2.2 s.act u HN.out.2.2.1 (HT.out.1.keep (Below.step HB2.out.2 (Below.step (below_drew _) hE))).oa.slOf (by have := HN.out.2.2.2.2.1; omega)).mono ?_
   rintro e w2 ⟨A', c', rfl, ho', hb'⟩
   exact hK _ _ hb' ⟨A', c', rfl, ho'.mono (Nat.le_trans HB2.out.1.lt hE.size)⟩
  all_goals
   refine AnyO.T rfl ?_; intro vs u hE hp ac hb K hK
   try have s0 : ac.tmps[0]?.getD undef = .pointer (some ⟨b, 0, none⟩) := by rw [hb.out]; kernel_rfl
   try have s9 : _ = _ := AnyO.sw 9 0 hb hp
   try have s10 : _ = _ := AnyO.sw 10 1 hb hp
   try have s11 : _ = _ := AnyO.sw 11 2 hb hp
   try have s14 : _ = _ := AnyO.sw 14 5 hb hp
   try have s15 : _ = _ := AnyO.sw 15 6 hb hp
   try have s16 : _ = _ := AnyO.sw 16 7 hb hp
   have rr_0 := (HT.out.1.keep (Below.step HB2.out.2 (Below.step (below_drew _) hE))).c2
   rw [HN.out.1] at rr_0
   have rr_1 := (HT.out.1.keep (Below.step HB2.out.2 (Below.step (below_drew _) hE))).c3
   rw [HN.out.2.1] at rr_1
   go_simp
   exact hK _ _ (Below.refl _ _) rfl
 ·intro vs u hE hp
  have e0 : _ = _ := hp 0 (by decide)
  have e1 : _ = _ := hp 1 (by decide)
  have e2 : _ = _ := hp 2 (by decide)
  have e3 : _ = _ := hp 3 (by decide)
  obtain ⟨A_4, c_4, e4, h_4⟩ := show isOwnS (k + 1) 86 35 cA na s.act (vs 4) u from hp 4 (by decide)
  have e5 : _ = _ := hp 5 (by decide)
  have e6 : _ = _ := hp 6 (by decide)
  have e7 : _ = _ := hp 7 (by decide)
  have e8 : _ = _ := hp 8 (by decide)
  clear hp
  have HF := Lib.hid (And.intro h_4 hE)
  clear h_4 hE
  rw [puts_range [some 9, some 10, some 11, some 12, some 13, some 14, some 15, some 16, some 17] (by kernel_rfl)]
  simp only [putL, Nat.reduceAdd, List.drop_succ_cons, List.drop_zero, e0, e1, e2, e3, e4, e5, e6, e7, e8]
  clear e0 e1 e2 e3 e4 e5 e6 e7 e8
  go_simp
  have hal : ∀ ad, A_4 = some ad → ad.block < u.heap.size := fun ad e => (Own.lt HF.out.1 ad.block (by rw [e]; rfl)).2
  have HAL := Lib.hid hal
  clear hal
  go_wp2_with (go_at_call 47; refine (clone47 vk.1 nk vk.2.2 s.kept u HN.out.2.2.2.1 (HT.out.1.keep (Below.step HB2.out.2 HF.out.2)).ok.slOf (by have := HN.out.2.2.2.2.2; omega)).mono ?_; rintro e w9 ⟨B9, c9, rfl, ho9, hb9⟩; have hrow9 := (HB2.out.1.keep HF.out.2).keep hb9; have ho4 := HF.out.1.keep hb9; have hbw9 := Below.step (Below.step HB2.out.2 HF.out.2) hb9; have CA := clone_at (s := s) (va := va) (vk := vk) (A := A_4) (B := B9) (ca := c_4) (cb := c9) hrow9 (Nat.lt_of_lt_of_le HB2.out.1.lt HF.out.2.size) HK0.out (by rw [HN.out.2.2.1]; exact ho4) HAL.out (by rw [HN.out.2.2.2.1]; exact ho9) hbw9; rw [HN.out.2.2.1, HN.out.2.2.2.1] at CA; obtain ⟨z2, k2, z3, k3, F2, hT2, hF2, hbF⟩ := CA; rw [HN.out.1] at k2; obtain ⟨W10, hW10⟩ : ∃ W10, w9.setCell ⟨k, 2, none⟩ (.slice A_4 na c_4) = W10 := ⟨_, rfl⟩; rw [hW10] at z3 k3 hT2 hF2 hbF; rw [HN.out.2.1] at k3; have HFIN := Lib.hid (And.intro hT2 (And.intro hF2 hbF)); clear hrow9 ho4 hbw9 ho9 hb9 hT2 hF2 hbF)
  go_ret
  exact ⟨k, F2, rfl, HFIN.out.1, HFIN.out.2.1, HFIN.out.2.2⟩
set_option maxRecDepth 100000 in
set_option maxHeartbeats 3200000 in
theorem equal29s (b d : Nat) (s : Tk) (F G : List Nat) (w : World) (hs : TkAt b s F w) (ht : TkAt d s G w) (ha : s.act.length ≤ 100) (hk : s.kept.length ≤ 100) : Calls Tryz.prog 29 #[.pointer (some ⟨b, 0, none⟩), .pointer (some ⟨d, 0, none⟩)] w fun e w' => e = .returned (.bool true) ∧ Below w.heap.size w w' := by
 obtain ⟨va, vk, hs⟩ := hs
 obtain ⟨ua, uk, ht⟩ := ht
 obtain ⟨na, hna⟩ : ∃ na, s.act.length = na := ⟨_, rfl⟩
 obtain ⟨nk, hnk⟩ : ∃ nk, s.kept.length = nk := ⟨_, rfl⟩
 have HN := Lib.hid (And.intro (hs.la.trans hna) (And.intro (hs.lk.trans hnk) (And.intro (ht.la.trans hna) (ht.lk.trans hnk))))
 have HM := Lib.hid (And.intro hna (And.intro hnk (And.intro (show na ≤ 100000 by omega) (show nk ≤ 100000 by omega))))
 have HS := Lib.hid hs
 have HU := Lib.hid ht
 clear hs ht ha hk hna hnk
 obtain ⟨w1, hw1⟩ : ∃ w1, s.win = w1 := ⟨_, rfl⟩
 obtain ⟨p1, hp1⟩ : ∃ p1, s.opn = p1 := ⟨_, rfl⟩
 have HW9 := Lib.hid (And.intro hw1 hp1)
 clear hw1 hp1
 go_enter Tryz.func29, Tryz.ntmps29
 go_wp2
 refine AnyO.wp_anyI (by kernel_rfl) (by kernel_rfl) (AnyO.InvG (σ := Unit) (fun σ => AnyO.pvL [some (.pointer (some ⟨b, 0, none⟩)), some (.pointer (some ⟨b, 0, none⟩)), some (.pointer (some ⟨b, 0, none⟩)), some (.int .i64 w1), some (.pointer (some ⟨d, 0, none⟩)), some (.pointer (some ⟨d, 0, none⟩)), some (.pointer (some ⟨d, 0, none⟩)), some (.int .i64 w1), some (.bool true), some (.bool true), some (.pointer (some ⟨b, 0, none⟩)), some (.pointer (some ⟨b, 0, none⟩)), some (.pointer (some ⟨b, 1, none⟩)), some (.bool p1), some (.pointer (some ⟨d, 0, none⟩)), some (.pointer (some ⟨d, 0, none⟩)), some (.pointer (some ⟨d, 1, none⟩)), some (.bool p1), some (.bool true), some (.bool true), some (.bool true), some (.pointer (some ⟨b, 0, none⟩)), some (.pointer (some ⟨b, 0, none⟩)), some (.pointer (some ⟨b, 2, none⟩)), some (.slice va.1 na va.2.2), some (.pointer (some ⟨d, 0, none⟩)), some (.pointer (some ⟨d, 0, none⟩)), some (.pointer (some ⟨d, 2, none⟩)), some (.slice ua.1 na ua.2.2), some (.bool true), some (.bool true), some (.bool true), some (.pointer (some ⟨b, 0, none⟩)), some (.pointer (some ⟨b, 0, none⟩)), some (.pointer (some ⟨b, 3, none⟩)), some (.slice vk.1 nk vk.2.2), some (.pointer (some ⟨d, 0, none⟩)), some (.pointer (some ⟨d, 0, none⟩)), some (.pointer (some ⟨d, 3, none⟩)), some (.slice uk.1 nk uk.2.2), some (.bool true), some (.bool true), some (.bool true)]) (fun _ _ u => Below w.heap.size w u)) (AnyO.InvG.start (g := ()) (below_drew _)) ?_ ?_
 ·intro i hi
  have hi2 : i = 10 ∨ i = 11 ∨ i = 12 ∨ i = 13 ∨ i = 14 ∨ i = 15 ∨ i = 16 ∨ i = 17 ∨ i = 18 ∨ i = 21 ∨ i = 22 ∨ i = 23 ∨ i = 24 ∨ i = 25 ∨ i = 26 ∨ i = 27 ∨ i = 28 ∨ i = 29 ∨ i = 32 ∨ i = 33 ∨ i = 34 ∨ i = 35 ∨ i = 36 ∨ i = 37 ∨ i = 38 ∨ i = 39 ∨ i = 40 ∨ i = 0 ∨ i = 1 ∨ i = 2 ∨ i = 3 ∨ i = 4 ∨ i = 5 ∨ i = 6 ∨ i = 7 ∨ i = 8 ∨ i = 9 ∨ i = 19 ∨ i = 20 ∨ i = 30 ∨ i = 31 ∨ i = 41 ∨ i = 42 := by simp only [List.size_toArray, List.append_eq, List.length_append, List.length_cons, List.length_nil] at hi; omega
  clear hi
  rcases hi2 with rfl | rfl | rfl | rfl | rfl | rfl | rfl | rfl | rfl | rfl | rfl | rfl | rfl | rfl | rfl | rfl | rfl | rfl | rfl | rfl | rfl | rfl | rfl | rfl | rfl | rfl | rfl | rfl | rfl | rfl | rfl | rfl | rfl | rfl | rfl | rfl | rfl | rfl | rfl | rfl | rfl | rfl | rfl
  ·refine AnyO.StepI.mk rfl [9] (by kernel_rfl) ?_; rintro D vs u ⟨σ, hP, hW⟩ h0 hC hp ac hb K hK
   have s0 : ac.tmps[0]?.getD undef = .pointer (some ⟨b, 0, none⟩) := by rw [hb]; kernel_rfl
   have s26 := AnyO.slot 26 hb (by kernel_rfl) (hP 9 (hp 9 (by decide)))
   rw [if_pos (AnyO.wanted_some (g := 9) (t := 26) (want := true) rfl rfl s26)]
   clear hb hp
   clear hC h0; have HPW := Lib.hid (And.intro hP hW); clear hP hW; go_simp; exact hK _ _ (AnyO.InvG.step (g := σ) HPW.out.1 rfl HPW.out.2)
  ·refine AnyO.StepI.mk rfl [10, 9] (by kernel_rfl) ?_; rintro D vs u ⟨σ, hP, hW⟩ h0 hC hp ac hb K hK
   have s27 := AnyO.slot 27 hb (by kernel_rfl) (hP 10 (hp 10 (by decide)))
   have s26 := AnyO.slot 26 hb (by kernel_rfl) (hP 9 (hp 9 (by decide)))
   rw [if_pos (AnyO.wanted_some (g := 9) (t := 26) (want := true) rfl rfl s26)]
   clear hb hp
   clear hC h0; have HPW := Lib.hid (And.intro hP hW); clear hP hW; go_simp; exact hK _ _ (AnyO.InvG.step (g := σ) HPW.out.1 rfl HPW.out.2)
  ·refine AnyO.StepI.mk rfl [11, 9] (by kernel_rfl) ?_; rintro D vs u ⟨σ, hP, hW⟩ h0 hC hp ac hb K hK
   have s28 := AnyO.slot 28 hb (by kernel_rfl) (hP 11 (hp 11 (by decide)))
   have s26 := AnyO.slot 26 hb (by kernel_rfl) (hP 9 (hp 9 (by decide)))
   rw [if_pos (AnyO.wanted_some (g := 9) (t := 26) (want := true) rfl rfl s26)]
   clear hb hp
   clear hC h0; have HPW := Lib.hid (And.intro hP hW); clear hP hW; go_simp; exact hK _ _ (AnyO.InvG.step (g := σ) HPW.out.1 rfl HPW.out.2)
  ·refine AnyO.StepI.mk rfl [12, 9] (by kernel_rfl) ?_; rintro D vs u ⟨σ, hP, hW⟩ h0 hC hp ac hb K hK
   have s29 := AnyO.slot 29 hb (by kernel_rfl) (hP 12 (hp 12 (by decide)))
   have s26 := AnyO.slot 26 hb (by kernel_rfl) (hP 9 (hp 9 (by decide)))
   rw [if_pos (AnyO.wanted_some (g := 9) (t := 26) (want := true) rfl rfl s26)]
   clear hb hp
   have rr := (HS.out.keep hW).c1
   rw [HW9.out.2] at rr
   clear hC h0; have HPW := Lib.hid (And.intro hP hW); clear hP hW; go_simp; exact hK _ _ (AnyO.InvG.step (g := σ) HPW.out.1 rfl HPW.out.2)
  ·refine AnyO.StepI.mk rfl [9] (by kernel_rfl) ?_; rintro D vs u ⟨σ, hP, hW⟩ h0 hC hp ac hb K hK
   have s1 : ac.tmps[1]?.getD undef = .pointer (some ⟨d, 0, none⟩) := by rw [hb]; kernel_rfl
   have s26 := AnyO.slot 26 hb (by kernel_rfl) (hP 9 (hp 9 (by decide)))
   rw [if_pos (AnyO.wanted_some (g := 9) (t := 26) (want := true) rfl rfl s26)]
   clear hb hp
   clear hC h0; have HPW := Lib.hid (And.intro hP hW); clear hP hW; go_simp; exact hK _ _ (AnyO.InvG.step (g := σ) HPW.out.1 rfl HPW.out.2)
  ·refine AnyO.StepI.mk rfl [14, 9] (by kernel_rfl) ?_; rintro D vs u ⟨σ, hP, hW⟩ h0 hC hp ac hb K hK
   have s31 := AnyO.slot 31 hb (by kernel_rfl) (hP 14 (hp 14 (by decide)))
   have s26 := AnyO.slot 26 hb (by kernel_rfl) (hP 9 (hp 9 (by decide)))
   rw [if_pos (AnyO.wanted_some (g := 9) (t := 26) (want := true) rfl rfl s26)]
   clear hb hp
   clear hC h0; have HPW := Lib.hid (And.intro hP hW); clear hP hW; go_simp; exact hK _ _ (AnyO.InvG.step (g := σ) HPW.out.1 rfl HPW.out.2)
  ·refine AnyO.StepI.mk rfl [15, 9] (by kernel_rfl) ?_; rintro D vs u ⟨σ, hP, hW⟩ h0 hC hp ac hb K hK
   have s32 := AnyO.slot 32 hb (by kernel_rfl) (hP 15 (hp 15 (by decide)))
   have s26 := AnyO.slot 26 hb (by kernel_rfl) (hP 9 (hp 9 (by decide)))
   rw [if_pos (AnyO.wanted_some (g := 9) (t := 26) (want := true) rfl rfl s26)]
   clear hb hp
   clear hC h0; have HPW := Lib.hid (And.intro hP hW); clear hP hW; go_simp; exact hK _ _ (AnyO.InvG.step (g := σ) HPW.out.1 rfl HPW.out.2)
  ·refine AnyO.StepI.mk rfl [16, 9] (by kernel_rfl) ?_; rintro D vs u ⟨σ, hP, hW⟩ h0 hC hp ac hb K hK
   have s33 := AnyO.slot 33 hb (by kernel_rfl) (hP 16 (hp 16 (by decide)))
   have s26 := AnyO.slot 26 hb (by kernel_rfl) (hP 9 (hp 9 (by decide)))
   rw [if_pos (AnyO.wanted_some (g := 9) (t := 26) (want := true) rfl rfl s26)]
   clear hb hp
   have rr := (HU.out.keep hW).c1
   rw [HW9.out.2] at rr
   clear hC h0; have HPW := Lib.hid (And.intro hP hW); clear hP hW; go_simp; exact hK _ _ (AnyO.InvG.step (g := σ) HPW.out.1 rfl HPW.out.2)
  ·refine AnyO.StepI.mk rfl [13, 17, 9] (by kernel_rfl) ?_; rintro D vs u ⟨σ, hP, hW⟩ h0 hC hp ac hb K hK
   have s30 := AnyO.slot 30 hb (by kernel_rfl) (hP 13 (hp 13 (by decide)))
   have s34 := AnyO.slot 34 hb (by kernel_rfl) (hP 17 (hp 17 (by decide)))
   have s26 := AnyO.slot 26 hb (by kernel_rfl) (hP 9 (hp 9 (by decide)))
   rw [if_pos (AnyO.wanted_some (g := 9) (t := 26) (want := true) rfl rfl s26)]
   clear hb hp
   clear hC h0; have HPW := Lib.hid (And.intro hP hW); clear hP hW; go_simp; exact hK _ _ (AnyO.InvG.step (g := σ) HPW.out.1 rfl HPW.out.2)
  ·refine AnyO.StepI.mk rfl [20] (by kernel_rfl) ?_; rintro D vs u ⟨σ, hP, hW⟩ h0 hC hp ac hb K hK
   have s0 : ac.tmps[0]?.getD undef = .pointer (some ⟨b, 0, none⟩) := by rw [hb]; kernel_rfl
   have s37 := AnyO.slot 37 hb (by kernel_rfl) (hP 20 (hp 20 (by decide)))
   rw [if_pos (AnyO.wanted_some (g := 20) (t := 37) (want := true) rfl rfl s37)]
   clear hb hp
   clear hC h0; have HPW := Lib.hid (And.intro hP hW); clear hP hW; go_simp; exact hK _ _ (AnyO.InvG.step (g := σ) HPW.out.1 rfl HPW.out.2)
  ·refine AnyO.StepI.mk rfl [21, 20] (by kernel_rfl) ?_; rintro D vs u ⟨σ, hP, hW⟩ h0 hC hp ac hb K hK
   have s38 := AnyO.slot 38 hb (by kernel_rfl) (hP 21 (hp 21 (by decide)))
   have s37 := AnyO.slot 37 hb (by kernel_rfl) (hP 20 (hp 20 (by decide)))
   rw [if_pos (AnyO.wanted_some (g := 20) (t := 37) (want := true) rfl rfl s37)]
   clear hb hp
   clear hC h0; have HPW := Lib.hid (And.intro hP hW); clear hP hW; go_simp; exact hK _ _ (AnyO.InvG.step (g := σ) HPW.out.1 rfl HPW.out.2)
  ·refine AnyO.StepI.mk rfl [22, 20] (by kernel_rfl) ?_; rintro D vs u ⟨σ, hP, hW⟩ h0 hC hp ac hb K hK
   have s39 := AnyO.slot 39 hb (by kernel_rfl) (hP 22 (hp 22 (by decide)))
   have s37 := AnyO.slot 37 hb (by kernel_rfl) (hP 20 (hp 20 (by decide)))
   rw [if_pos (AnyO.wanted_some (g := 20) (t := 37) (want := true) rfl rfl s37)]
   clear hb hp
   clear hC h0; have HPW := Lib.hid (And.intro hP hW); clear hP hW; go_simp; exact hK _ _ (AnyO.InvG.step (g := σ) HPW.out.1 rfl HPW.out.2)
  ·refine AnyO.StepI.mk rfl [23, 20] (by kernel_rfl) ?_; rintro D vs u ⟨σ, hP, hW⟩ h0 hC hp ac hb K hK
   have s40 := AnyO.slot 40 hb (by kernel_rfl) (hP 23 (hp 23 (by decide)))
   have s37 := AnyO.slot 37 hb (by kernel_rfl) (hP 20 (hp 20 (by decide)))
   rw [if_pos (AnyO.wanted_some (g := 20) (t := 37) (want := true) rfl rfl s37)]
   clear hb hp
   have rr := (HS.out.keep hW).c2
   rw [HN.out.1] at rr
   clear hC h0; have HPW := Lib.hid (And.intro hP hW); clear hP hW; go_simp; exact hK _ _ (AnyO.InvG.step (g := σ) HPW.out.1 rfl HPW.out.2)
  ·refine AnyO.StepI.mk rfl [20] (by kernel_rfl) ?_; rintro D vs u ⟨σ, hP, hW⟩ h0 hC hp ac hb K hK
   have s1 : ac.tmps[1]?.getD undef = .pointer (some ⟨d, 0, none⟩) := by rw [hb]; kernel_rfl
   have s37 := AnyO.slot 37 hb (by kernel_rfl) (hP 20 (hp 20 (by decide)))
   rw [if_pos (AnyO.wanted_some (g := 20) (t := 37) (want := true) rfl rfl s37)]
   clear hb hp
   clear hC h0; have HPW := Lib.hid (And.intro hP hW); clear hP hW; go_simp; exact hK _ _ (AnyO.InvG.step (g := σ) HPW.out.1 rfl HPW.out.2)
  ·refine AnyO.StepI.mk rfl [25, 20] (by kernel_rfl) ?_; rintro D vs u ⟨σ, hP, hW⟩ h0 hC hp ac hb K hK
   have s42 := AnyO.slot 42 hb (by kernel_rfl) (hP 25 (hp 25 (by decide)))
   have s37 := AnyO.slot 37 hb (by kernel_rfl) (hP 20 (hp 20 (by decide)))
   rw [if_pos (AnyO.wanted_some (g := 20) (t := 37) (want := true) rfl rfl s37)]
   clear hb hp
   clear hC h0; have HPW := Lib.hid (And.intro hP hW); clear hP hW; go_simp; exact hK _ _ (AnyO.InvG.step (g := σ) HPW.out.1 rfl HPW.out.2)
  ·refine AnyO.StepI.mk rfl [26, 20] (by kernel_rfl) ?_; rintro D vs u ⟨σ, hP, hW⟩ h0 hC hp ac hb K hK
   have s43 := AnyO.slot 43 hb (by kernel_rfl) (hP 26 (hp 26 (by decide)))
   have s37 := AnyO.slot 37 hb (by kernel_rfl) (hP 20 (hp 20 (by decide)))
   rw [if_pos (AnyO.wanted_some (g := 20) (t := 37) (want := true) rfl rfl s37)]
   clear hb hp
   clear hC h0; have HPW := Lib.hid (And.intro hP hW); clear hP hW; go_simp; exact hK _ _ (AnyO.InvG.step (g := σ) HPW.out.1 rfl HPW.out.2)
  ·refine AnyO.StepI.mk rfl [27, 20] (by kernel_rfl) ?_; rintro D vs u ⟨σ, hP, hW⟩ h0 hC hp ac hb K hK
   have s44 := AnyO.slot 44 hb (by kernel_rfl) (hP 27 (hp 27 (by decide)))
   have s37 := AnyO.slot 37 hb (by kernel_rfl) (hP 20 (hp 20 (by decide)))
   rw [if_pos (AnyO.wanted_some (g := 20) (t := 37) (want := true) rfl rfl s37)]
   clear hb hp
   have rr := (HU.out.keep hW).c2
   rw [HN.out.2.2.1] at rr
   clear hC h0; have HPW := Lib.hid (And.intro hP hW); clear hP hW; go_simp; exact hK _ _ (AnyO.InvG.step (g := σ) HPW.out.1 rfl HPW.out.2)
  ·refine AnyO.StepI.mk rfl [24, 28, 20, 20] (by kernel_rfl) ?_; rintro D vs u ⟨σ, hP, hW⟩ h0 hC hp ac hb K hK
   have s41 := AnyO.slot 41 hb (by kernel_rfl) (hP 24 (hp 24 (by decide)))
   have s45 := AnyO.slot 45 hb (by kernel_rfl) (hP 28 (hp 28 (by decide)))
   have s37 := AnyO.slot 37 hb (by kernel_rfl) (hP 20 (hp 20 (by decide)))
   rw [if_pos (AnyO.wanted_some (g := 20) (t := 37) (want := true) rfl rfl s37)]
   clear hb hp
   clear hC h0; have HPW := Lib.hid (And.intro hP hW); clear hP hW; go_simp; obtain ⟨hP, hW⟩ := HPW.out
   go_at_call 48
   refine (equal48 va.1 ua.1 na na va.2.2 ua.2.2 s.act s.act u HM.out.1 HM.out.1 (HS.out.keep hW).oa.slOf (HU.out.keep hW).oa.slOf HM.out.2.2.1).mono ?_
   rw [decide_eq_true rfl]
   rintro e w2 ⟨rfl, hb2⟩
   exact hK _ _ (AnyO.InvG.step (g := σ) hP rfl (Below.step hW hb2))
  ·refine AnyO.StepI.mk rfl [31] (by kernel_rfl) ?_; rintro D vs u ⟨σ, hP, hW⟩ h0 hC hp ac hb K hK
   have s0 : ac.tmps[0]?.getD undef = .pointer (some ⟨b, 0, none⟩) := by rw [hb]; kernel_rfl
   have s48 := AnyO.slot 48 hb (by kernel_rfl) (hP 31 (hp 31 (by decide)))
   rw [if_pos (AnyO.wanted_some (g := 31) (t := 48) (want := true) rfl rfl s48)]
   clear hb hp
   clear hC h0; have HPW := Lib.hid (And.intro hP hW); clear hP hW; go_simp; exact hK _ _ (AnyO.InvG.step (g := σ) HPW.out.1 rfl HPW.out.2)
  ·refine AnyO.StepI.mk rfl [32, 31] (by kernel_rfl) ?_; rintro D vs u ⟨σ, hP, hW⟩ h0 hC hp ac hb K hK
   have s49 := AnyO.slot 49 hb (by kernel_rfl) (hP 32 (hp 32 (by decide)))
   have s48 := AnyO.slot 48 hb (by kernel_rfl) (hP 31 (hp 31 (by decide)))
   rw [if_pos (AnyO.wanted_some (g := 31) (t := 48) (want := true) rfl rfl s48)]
   clear hb hp
   clear hC h0; have HPW := Lib.hid (And.intro hP hW); clear hP hW; go_simp; exact hK _ _ (AnyO.InvG.step (g := σ) HPW.out.1 rfl HPW.out.2)
  ·refine AnyO.StepI.mk rfl [33, 31] (by kernel_rfl) ?_; rintro D vs u ⟨σ, hP, hW⟩ h0 hC hp ac hb K hK
   have s50 := AnyO.slot 50 hb (by kernel_rfl) (hP 33 (hp 33 (by decide)))
   have s48 := AnyO.slot 48 hb (by kernel_rfl) (hP 31 (hp 31 (by decide)))
   rw [if_pos (AnyO.wanted_some (g := 31) (t := 48) (want := true) rfl rfl s48)]
   clear hb hp
   clear hC h0; have HPW := Lib.hid (And.intro hP hW); clear hP hW; go_simp; exact hK _ _ (AnyO.InvG.step (g := σ) HPW.out.1 rfl HPW.out.2)
  ·refine AnyO.StepI.mk rfl [34, 31] (by kernel_rfl) ?_; rintro D vs u ⟨σ, hP, hW⟩ h0 hC hp ac hb K hK
   have s51 := AnyO.slot 51 hb (by kernel_rfl) (hP 34 (hp 34 (by decide)))
   have s48 := AnyO.slot 48 hb (by kernel_rfl) (hP 31 (hp 31 (by decide)))
   rw [if_pos (AnyO.wanted_some (g := 31) (t := 48) (want := true) rfl rfl s48)]
   clear hb hp
   have rr := (HS.out.keep hW).c3
   rw [HN.out.2.1] at rr
   clear hC h0; have HPW := Lib.hid (And.intro hP hW); clear hP hW; go_simp; exact hK _ _ (AnyO.InvG.step (g := σ) HPW.out.1 rfl HPW.out.2)
  ·refine AnyO.StepI.mk rfl [31] (by kernel_rfl) ?_; rintro D vs u ⟨σ, hP, hW⟩ h0 hC hp ac hb K hK
   have s1 : ac.tmps[1]?.getD undef = .pointer (some ⟨d, 0, none⟩) := by rw [hb]; kernel_rfl
   have s48 := AnyO.slot 48 hb (by kernel_rfl) (hP 31 (hp 31 (by decide)))
   rw [if_pos (AnyO.wanted_some (g := 31) (t := 48) (want := true) rfl rfl s48)]
   clear hb hp
   clear hC h0; have HPW := Lib.hid (And.intro hP hW); clear hP hW; go_simp; exact hK _ _ (AnyO.InvG.step (g := σ) HPW.out.1 rfl HPW.out.2)
  ·refine AnyO.StepI.mk rfl [36, 31] (by kernel_rfl) ?_; rintro D vs u ⟨σ, hP, hW⟩ h0 hC hp ac hb K hK
   have s53 := AnyO.slot 53 hb (by kernel_rfl) (hP 36 (hp 36 (by decide)))
   have s48 := AnyO.slot 48 hb (by kernel_rfl) (hP 31 (hp 31 (by decide)))
   rw [if_pos (AnyO.wanted_some (g := 31) (t := 48) (want := true) rfl rfl s48)]
   clear hb hp
   clear hC h0; have HPW := Lib.hid (And.intro hP hW); clear hP hW; go_simp; exact hK _ _ (AnyO.InvG.step (g := σ) HPW.out.1 rfl HPW.out.2)
  ·refine AnyO.StepI.mk rfl [37, 31] (by kernel_rfl) ?_; rintro D vs u ⟨σ, hP, hW⟩ h0 hC hp ac hb K hK
   have s54 := AnyO.slot 54 hb (by kernel_rfl) (hP 37 (hp 37 (by decide)))
   have s48 := AnyO.slot 48 hb (by kernel_rfl) (hP 31 (hp 31 (by decide)))
   rw [if_pos (AnyO.wanted_some (g := 31) (t := 48) (want := true) rfl rfl s48)]
   clear hb hp
   clear hC h0; have HPW := Lib.hid (And.intro hP hW); clear hP hW; go_simp; exact hK _ _ (AnyO.InvG.step (g := σ) HPW.out.1 rfl HPW.out.2)
  ·refine AnyO.StepI.mk rfl [38, 31] (by kernel_rfl) ?_; rintro D vs u ⟨σ, hP, hW⟩ h0 hC hp ac hb K hK
   have s55 := AnyO.slot 55 hb (by kernel_rfl) (hP 38 (hp 38 (by decide)))
   have s48 := AnyO.slot 48 hb (by kernel_rfl) (hP 31 (hp 31 (by decide)))
   rw [if_pos (AnyO.wanted_some (g := 31) (t := 48) (want := true) rfl rfl s48)]
   clear hb hp
   have rr := (HU.out.keep hW).c3
   rw [HN.out.2.2.2] at rr
   clear hC h0; have HPW := Lib.hid (And.intro hP hW); clear hP hW; go_simp; exact hK _ _ (AnyO.InvG.step (g := σ) HPW.out.1 rfl HPW.out.2)
  ·refine AnyO.StepI.mk rfl [35, 39, 31, 31] (by kernel_rfl) ?_; rintro D vs u ⟨σ, hP, hW⟩ h0 hC hp ac hb K hK
   have s52 := AnyO.slot 52 hb (by kernel_rfl) (hP 35 (hp 35 (by decide)))
   have s56 := AnyO.slot 56 hb (by kernel_rfl) (hP 39 (hp 39 (by decide)))
   have s48 := AnyO.slot 48 hb (by kernel_rfl) (hP 31 (hp 31 (by decide)))
   rw [if_pos (AnyO.wanted_some (g := 31) (t := 48) (want := true) rfl rfl s48)]
   clear hb hp
   clear hC h0; have HPW := Lib.hid (And.intro hP hW); clear hP hW; go_simp; obtain ⟨hP, hW⟩ := HPW.out
   go_at_call 48
   refine (equal48 vk.1 uk.1 nk nk vk.2.2 uk.2.2 s.kept s.kept u HM.out.2.1 HM.out.2.1 (HS.out.keep hW).ok.slOf (HU.out.keep hW).ok.slOf HM.out.2.2.2).mono ?_
   rw [decide_eq_true rfl]
   rintro e w2 ⟨rfl, hb2⟩
   exact hK _ _ (AnyO.InvG.step (g := σ) hP rfl (Below.step hW hb2))
  all_goals
   refine AnyO.J rfl ?_; rintro D vs u σ Q h0 hC hp ac hb K hK
   try have s0 : ac.tmps[0]?.getD undef = .pointer (some ⟨b, 0, none⟩) := by rw [hb.out]; kernel_rfl
   try have s17 : _ = _ := AnyO.sv 17 0 hb hp Q
   try have s18 : _ = _ := AnyO.sv 18 1 hb hp Q
   try have s19 : _ = _ := AnyO.sv 19 2 hb hp Q
   try have s1 : ac.tmps[1]?.getD undef = .pointer (some ⟨d, 0, none⟩) := by rw [hb.out]; kernel_rfl
   try have s21 : _ = _ := AnyO.sv 21 4 hb hp Q
   try have s22 : _ = _ := AnyO.sv 22 5 hb hp Q
   try have s23 : _ = _ := AnyO.sv 23 6 hb hp Q
   try have s20 : _ = _ := AnyO.sv 20 3 hb hp Q
   try have s24 : _ = _ := AnyO.sv 24 7 hb hp Q
   try have s25 : _ = _ := AnyO.sv 25 8 hb hp Q
   try have s26 : _ = _ := AnyO.sv 26 9 hb hp Q
   try have s35 : _ = _ := AnyO.sv 35 18 hb hp Q
   try have s36 : _ = _ := AnyO.sv 36 19 hb hp Q
   try have s37 : _ = _ := AnyO.sv 37 20 hb hp Q
   try have s46 : _ = _ := AnyO.sv 46 29 hb hp Q
   try have s47 : _ = _ := AnyO.sv 47 30 hb hp Q
   try have s48 : _ = _ := AnyO.sv 48 31 hb hp Q
   try have s57 : _ = _ := AnyO.sv 57 40 hb hp Q
   try have s58 : _ = _ := AnyO.sv 58 41 hb hp Q
   have rr_0 := (HS.out.keep Q.out.2).c0
   rw [HW9.out.1] at rr_0
   have rr_1 := (HU.out.keep Q.out.2).c0
   rw [HW9.out.1] at rr_1
   go_simp
   exact hK _ _ (AnyO.InvG.step (g := σ) Q.out.1 rfl Q.out.2)
 ·intro D vs u hI hD
  obtain ⟨σ, hP, hW⟩ := hI
  have e0 : _ = _ := hP 0 (hD 0 (by decide))
  have e1 : _ = _ := hP 1 (hD 1 (by decide))
  have e2 : _ = _ := hP 2 (hD 2 (by decide))
  have e3 : _ = _ := hP 3 (hD 3 (by decide))
  have e4 : _ = _ := hP 4 (hD 4 (by decide))
  have e5 : _ = _ := hP 5 (hD 5 (by decide))
  have e6 : _ = _ := hP 6 (hD 6 (by decide))
  have e7 : _ = _ := hP 7 (hD 7 (by decide))
  have e8 : _ = _ := hP 8 (hD 8 (by decide))
  have e9 : _ = _ := hP 9 (hD 9 (by decide))
  have e10 : _ = _ := hP 10 (hD 10 (by decide))
  have e11 : _ = _ := hP 11 (hD 11 (by decide))
  have e12 : _ = _ := hP 12 (hD 12 (by decide))
  have e13 : _ = _ := hP 13 (hD 13 (by decide))
  have e14 : _ = _ := hP 14 (hD 14 (by decide))
  have e15 : _ = _ := hP 15 (hD 15 (by decide))
  have e16 : _ = _ := hP 16 (hD 16 (by decide))
  have e17 : _ = _ := hP 17 (hD 17 (by decide))
  have e18 : _ = _ := hP 18 (hD 18 (by decide))
  have e19 : _ = _ := hP 19 (hD 19 (by decide))
  have e20 : _ = _ := hP 20 (hD 20 (by decide))
  have e21 : _ = _ := hP 21 (hD 21 (by decide))
  have e22 : _ = _ := hP 22 (hD 22 (by decide))
  have e23 : _ = _ := hP 23 (hD 23 (by decide))
  have e24 : _ = _ := hP 24 (hD 24 (by decide))
  have e25 : _ = _ := hP 25 (hD 25 (by decide))
  have e26 : _ = _ := hP 26 (hD 26 (by decide))
  have e27 : _ = _ := hP 27 (hD 27 (by decide))
  have e28 : _ = _ := hP 28 (hD 28 (by decide))
  have e29 : _ = _ := hP 29 (hD 29 (by decide))
  have e30 : _ = _ := hP 30 (hD 30 (by decide))
  have e31 : _ = _ := hP 31 (hD 31 (by decide))
  have e32 : _ = _ := hP 32 (hD 32 (by decide))
  have e33 : _ = _ := hP 33 (hD 33 (by decide))
  have e34 : _ = _ := hP 34 (hD 34 (by decide))
  have e35 : _ = _ := hP 35 (hD 35 (by decide))
  have e36 : _ = _ := hP 36 (hD 36 (by decide))
  have e37 : _ = _ := hP 37 (hD 37 (by decide))
  have e38 : _ = _ := hP 38 (hD 38 (by decide))
  have e39 : _ = _ := hP 39 (hD 39 (by decide))
  have e40 : _ = _ := hP 40 (hD 40 (by decide))
  have e41 : _ = _ := hP 41 (hD 41 (by decide))
  have e42 : _ = _ := hP 42 (hD 42 (by decide))
  have HST := Lib.hid hW
  have HW := Lib.hid hW
  clear hW hP hD
  rw [puts_range [some 17, some 18, some 19, some 20, some 21, some 22, some 23, some 24, some 25, some 26, some 27, some 28, some 29, some 30, some 31, some 32, some 33, some 34, some 35, some 36, some 37, some 38, some 39, some 40, some 41, some 42, some 43, some 44, some 45, some 46, some 47, some 48, some 49, some 50, some 51, some 52, some 53, some 54, some 55, some 56, some 57, some 58, some 4] (by kernel_rfl)]
  simp only [putL, Nat.reduceAdd, e0, e1, e2, e3, e4, e5, e6, e7, e8, e9, e10, e11, e12, e13, e14, e15, e16, e17, e18, e19, e20, e21, e22, e23, e24, e25, e26, e27, e28, e29, e30, e31, e32, e33, e34, e35, e36, e37, e38, e39, e40, e41, e42]
  clear e0 e1 e2 e3 e4 e5 e6 e7 e8 e9 e10 e11 e12 e13 e14 e15 e16 e17 e18 e19 e20 e21 e22 e23 e24 e25 e26 e27 e28 e29 e30 e31 e32 e33 e34 e35 e36 e37 e38 e39 e40 e41 e42
  go_simp
  go_wp2
  go_ret
  exact ⟨rfl, HST.out⟩
end Go.Proofs.YtgojaelkdpabkaaGreatDoor
