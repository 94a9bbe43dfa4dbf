/- Nearest without a predicate; Parent. -/
import Derived.Test.YtcchpenaiomeeaaNearB
namespace Go.Proofs.Ytcchpenaiomeeaa
open Go.RowKit
attribute [local go_sem] Oper.semAt_some
set_option maxRecDepth 100000 in
set_option maxHeartbeats 1600000 in
theorem near17_nil (A : Option Addr) (c n : Nat) (xs : List Id) (w : World) (hl : xs.length = n) :
    Calls Try.prog 17 #[.slice A n c, .nilFunc] w fun e w' => e = .returned (.tuple #[vI zI, .int .i64 n, .bool false]) ∧ Below w.heap.size w w' := by
  have HX := Lib.hid hl
  clear hl
  have hbe : ∀ W, Sem.run Try.prog (binOp .eql 37 .nilFunc .nilFunc) W = .ok (.bool true) W := fun W => by rfl
  go_enter Try.func17, Try.ntmps17
  go_wp2
  obtain ⟨W0, hW0⟩ : ∃ W0, W17 w (.slice A n c) .nilFunc = W0 := ⟨_, rfl⟩
  have hnew := fr_new w (.slice A n c) .nilFunc
  rw [show ((((w.alloc (.cells #[.slice A n c] 24)).alloc (.cells #[.nilFunc] 37)).alloc (.cells (aI zI) 33)).alloc (.cells #[.int .i64 0] 3)).alloc (.cells #[.bool false] 4) = W0 from hW0]
  rw [hW0] at hnew
  clear hW0
  have hI0 : EInv w W0 (.slice A n c) .nilFunc W0 := ⟨hnew.1, KeepsFrom.refl _ _, hnew.2.1⟩
  clear hnew hbe
  refine (wpIn_wide (n := 5)).1 ?_
  refine AnyO.wpIn_any_tailP (.inl rfl) 4 (by kernel_rfl) (by kernel_rfl) (by kernel_rfl) (by kernel_rfl) (by kernel_rfl) (by kernel_rfl) (fun u => EInv w W0 (.slice A n c) .nilFunc u) (pstP [isV (vI zI), isV (.slice A n c), isV (.int .i64 n), fun _ u => At u ⟨w.heap.size + 1 + 1, 0, none⟩ (cI zI)]) (hI0.drew) ?_ ?_
  · intro i hi
    have hi2 : i = 0 ∨ i = 1 ∨ i = 2 ∨ i = 3 := by omega
    clear hi
    rcases hi2 with rfl | rfl | rfl | rfl
    · -- 0: Op.build 33 #[]
      refine AnyO.StepP.mk rfl [] (by kernel_rfl) ?_
      intro vs u hE hp ac hb K hK
      rw [if_pos (AnyO.wanted_none rfl)]
      clear hb hp
      go_simp
      exact hK _ _ hE (fun _ _ _ h => h) rfl
    · -- 1: Op.load 24 (Operand.tmp 2)
      refine AnyO.StepP.mk rfl [] (by kernel_rfl) ?_
      intro vs u hE hp ac hb K hK
      have s2 : ac.tmps[2]?.getD undef = .pointer (some ⟨w.heap.size, 0, none⟩) := by rw [hb]; kernel_rfl
      rw [if_pos (AnyO.wanted_none rfl)]
      clear hb hp
      have hc2 := hE.fr.c2
      go_simp
      exact hK _ _ hE (fun _ _ _ h => h) rfl
    · -- 2: Op.call { callee := Callee.builtin Builtin.len, args := #[Op
      refine AnyO.StepP.mk rfl [1] (by kernel_rfl) ?_
      intro vs u hE hp ac hb K hK
      have s12 : ac.tmps[12]?.getD undef = .slice A n c := by rw [hb]; exact (show _ = vs 1 by kernel_rfl).trans (hp 1 (by decide))
      rw [if_pos (AnyO.wanted_none rfl)]
      clear hb hp
      go_simp
      exact hK _ _ hE (fun _ _ _ h => h) rfl
    · -- 3: Op.store 33 (Operand.tmp 4) (Operand.tmp 11)
      refine AnyO.StepP.mk rfl [0, 0] (by kernel_rfl) ?_
      intro vs u hE hp ac hb K hK
      have s4 : ac.tmps[4]?.getD undef = .pointer (some ⟨w.heap.size + 1 + 1, 0, none⟩) := by rw [hb]; kernel_rfl
      have s11 : ac.tmps[11]?.getD undef = vI zI := by rw [hb]; exact (show _ = vs 0 by kernel_rfl).trans (hp 0 (by decide))
      rw [if_pos (AnyO.wanted_none rfl)]
      clear hb hp
      have hr4 := hE.fr.r4
      go_simp
      exact hK undef _ (hE.setRow _) (fun j v hj h => near_posts8 hj h) (at_setRow (cI zI) hE.fr.r4)
  · intro vs u hE hp
    have e0 : vs 0 = vI zI := hp 0 (by decide)
    have e1 : vs 1 = .slice A n c := hp 1 (by decide)
    have e2 : vs 2 = .int .i64 n := hp 2 (by decide)
    have f3 : At u ⟨w.heap.size + 1 + 1, 0, none⟩ (cI zI) := hp 3 (by decide)
    clear hp
    rw [puts_range [some 11, some 12, some 13, none] (by kernel_rfl)]
    simp only [putL, Nat.reduceAdd, List.drop_succ_cons, List.drop_zero, e0, e1, e2]
    clear e0 e1 e2
    go_simp
    have c5 := hE.fr.c5
    have g5 := hE.fr.f5
    have c6 := hE.fr.c6
    have g6 := hE.fr.f6
    gi_wp2
    refine wp_ret ?_
    have hnl := HX.out
    subst hnl
    have k5 : ((u.setCell ⟨w.heap.size + 1 + 1 + 1, 0, none⟩ (.int .i64 xs.length)).setCell ⟨w.heap.size + 1 + 1 + 1 + 1, 0, none⟩ (.bool false)).cell? ⟨w.heap.size + 1 + 1 + 1, 0, none⟩ = some (.int .i64 xs.length) := by rw [World.cell?_setCell_other _ _ _ _ (by simp), World.cell?_setCell_same' _ _ _ (by rw [c5]; rfl)]
    have k6 : ((u.setCell ⟨w.heap.size + 1 + 1 + 1, 0, none⟩ (.int .i64 xs.length)).setCell ⟨w.heap.size + 1 + 1 + 1 + 1, 0, none⟩ (.bool false)).cell? ⟨w.heap.size + 1 + 1 + 1 + 1, 0, none⟩ = some (.bool false) := by rw [World.cell?_setCell_same' _ _ _ (by rw [World.cell?_setCell_other _ _ _ _ (by simp), c6]; rfl)]
    have k4 : At ((u.setCell ⟨w.heap.size + 1 + 1 + 1, 0, none⟩ (.int .i64 xs.length)).setCell ⟨w.heap.size + 1 + 1 + 1 + 1, 0, none⟩ (.bool false)) ⟨w.heap.size + 1 + 1, 0, none⟩ (cI zI) := (f3.setOther _ _ (by simp)).setOther _ _ (by simp)
    have hbl : Below w.heap.size w ((u.setCell ⟨w.heap.size + 1 + 1 + 1, 0, none⟩ (.int .i64 xs.length)).setCell ⟨w.heap.size + 1 + 1 + 1 + 1, 0, none⟩ (.bool false)) := (hE.bl.setCell (p := ⟨w.heap.size + 1 + 1 + 1, 0, none⟩) (by simp; omega) _).setCell (p := ⟨w.heap.size + 1 + 1 + 1 + 1, 0, none⟩) (by simp; omega) _
    show bodyPost Try.prog Try.f17 (fun e w' => e = .returned (.tuple #[vI zI, .int .i64 xs.length, .bool false]) ∧ Below w.heap.size w w') .ret _ _
    refine bodyPost_ret (v := .tuple #[vI zI, .int .i64 xs.length, .bool false]) (results_c33 (ad := ⟨w.heap.size + 1 + 1, 0, none⟩) (bd := ⟨w.heap.size + 1 + 1 + 1, 0, none⟩) (cd := ⟨w.heap.size + 1 + 1 + 1 + 1, 0, none⟩) rfl rfl (load_id k4) rfl ?_ rfl ?_) rfl ⟨rfl, hbl⟩
    · simp [go_sem, k5]
    · simp [go_sem, k6]
theorem near_all {xs : List Id} {e : Ending} (h : NearP (fun _ => true) xs e) : e = .returned (.tuple #[vI (xs.getD (xs.length - 1) zI), .int .i64 0, .bool (decide (0 < xs.length))]) := by
  rcases h with ⟨k, hk, _, h2, rfl⟩ | ⟨h, rfl⟩
  · have hk2 : k = xs.length - 1 := by
      rcases Nat.lt_or_ge k (xs.length - 1) with h3 | h3
      · have := h2 (xs.length - 1) h3 (by omega)
        cases this
      · omega
    subst hk2
    rw [decide_eq_true (show 0 < xs.length by omega), show ((xs.length : Int) - 1 - ((xs.length - 1 : Nat) : Int)) = 0 by omega]
  · cases xs with
    | nil => rfl
    | cons x r =>
      have := h 0 (by simp)
      cases this
set_option maxRecDepth 100000 in
set_option maxHeartbeats 800000 in
theorem parent20 (A : Option Addr) (c n : Nat) (xs : List Id) (w : World) (hl : xs.length = n) (hc : n ≤ c) (hx : Sl w cI A xs) (hn : xs.length ≤ 1000) :
    Calls Try.prog 20 #[.slice A n c] w fun e w' => e = .returned (.tuple #[vI (xs.getD (xs.length - 1) zI), .bool (decide (0 < xs.length))]) ∧ Below w.heap.size w w' := by
  have HX := Lib.hid (And.intro hl (And.intro hc (And.intro hx hn)))
  clear hl hc hx hn
  obtain ⟨y, hy⟩ : ∃ y, xs.getD (xs.length - 1) zI = y := ⟨_, rfl⟩
  obtain ⟨b, hb0⟩ : ∃ b, decide (0 < xs.length) = b := ⟨_, rfl⟩
  have HY := Lib.hid (And.intro hy hb0)
  rw [hy, hb0]
  clear hy hb0
  go_enter Try.func20, Try.ntmps20
  go_wp2_with (go_at_call 17; refine (near17 _ _ (.inr ⟨rfl, rfl⟩) _ _ _ xs _ HX.out.1 HX.out.2.1 (HX.out.2.2.1.keep (below_alloc _ _)) HX.out.2.2.2).mono ?_; rintro e w1 ⟨hN, hb⟩; obtain rfl := near_all hN; rw [HY.out.1, HY.out.2]; have hro := rowOk_kept (rowOk_newI w zI 33 w.heap.size rfl) hb; have hro2 := fun o => (rowOk_alloc w1 o w.heap.size 32 (rowOk_lt hro)).trans hro; have H1 := Lib.hid (Below.step (below_alloc _ _) hb); clear hN hb)
  have hat := at_setRow (cI y) (hro2 (.cells (aI y) 33))
  exact bodyPost_ret (v := .tuple #[vI y, .bool b]) (results_c2 (ad := ⟨w.heap.size, 0, none⟩) rfl rfl (load_id hat) rfl) rfl ⟨rfl, Below.setRow (H1.out.alloc H1.out.size _) (Nat.le_refl _) _⟩
end Go.Proofs.Ytcchpenaiomeeaa
