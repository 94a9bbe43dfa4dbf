/- Same of the reference. -/
import Derived.Test.YtlelecnafdddhaaDoorEq
namespace Go.Proofs.YtlelecnafdddhaaDoor
open Go.RowKit
set_option maxRecDepth 100000 in
set_option maxHeartbeats 3200000 in
theorem same28 (F G : List Nat) (ch : Int) (s t : St) (r r2 : Rs) (w : World) (ha : RefAt F ch s r w) (hb : RefAt G ch t r2 w) (hm : s.wait.length ≤ 100000) (hm2 : s.outs.length ≤ 100000) : Calls Tryd.prog 28 #[vR r, vR r2] w fun e w' => e = .returned (.bool (eqS s t)) ∧ Below w.heap.size w w' := by
  obtain ⟨A1, l1, c1, hw1⟩ : ∃ A n c, r.w = (A, n, c) := ⟨_, _, _, rfl⟩
  obtain ⟨A2, l2, c2, hw2⟩ : ∃ A n c, r2.w = (A, n, c) := ⟨_, _, _, rfl⟩
  obtain ⟨A3, l3, c3, ho1⟩ : ∃ A n c, r.o = (A, n, c) := ⟨_, _, _, rfl⟩
  obtain ⟨A4, l4, c4, ho2⟩ : ∃ A n c, r2.o = (A, n, c) := ⟨_, _, _, rfl⟩
  obtain ⟨hl1, _, sl1, _⟩ := ha.ws
  obtain ⟨hl2, _, sl2, _⟩ := hb.ws
  obtain ⟨hl3, _, sl3, _⟩ := ha.os
  obtain ⟨hl4, _, sl4, _⟩ := hb.os
  rw [hw1] at hl1 sl1
  rw [hw2] at hl2 sl2
  rw [ho1] at hl3 sl3
  rw [ho2] at hl4 sl4
  dsimp only at hl1 hl2 hl3 hl4 sl1 sl2 sl3 sl4
  have W1 : Below w.heap.size w ((w.alloc (.cells (aR r) 32)).alloc (.cells (aR r2) 32)) := Below.step (below_alloc w _) (below_alloc _ _)
  have R1 : Row ((w.alloc (.cells (aR r) 32)).alloc (.cells (aR r2) 32)) w.heap.size (cR r) 32 := (Row.new w (cR r) 32).keep (below_alloc _ _)
  have R2 : Row ((w.alloc (.cells (aR r) 32)).alloc (.cells (aR r2) 32)) (w.heap.size + 1) (cR r2) 32 := by
    have h := Row.new (w.alloc (.cells (aR r) 32)) (cR r2) 32
    rwa [show (w.alloc (.cells (aR r) 32)).heap.size = w.heap.size + 1 by simp] at h
  obtain ⟨W, hW⟩ : ∃ W, (w.alloc (.cells (aR r) 32)).alloc (.cells (aR r2) 32) = W := ⟨_, rfl⟩
  rw [hW] at W1 R1 R2
  obtain ⟨i0, i1, i2, _, ⟨i3, i3'⟩, _, i36, i37, _, i9⟩ := row_R R1
  obtain ⟨j0, j1, j2, _, ⟨j3, j3'⟩, _, j36, j37, _, j9⟩ := row_R R2
  rw [ha.ch] at i0
  rw [hb.ch] at j0
  rw [ha.st] at i1
  rw [hb.st] at j1
  rw [ha.at_] at i2
  rw [hb.at_] at j2
  rw [ha.cur] at i3'
  rw [hb.cur] at j3'
  rw [hw1] at i36
  rw [hw2] at j36
  rw [ho1] at i37
  rw [ho2] at j37
  dsimp only at i36 j36 i37 j37
  change W.cell? _ = some (.int .i64 (sentS s)) at i2
  change W.cell? _ = some (.int .i64 (sentS t)) at j2
  have HR := Lib.hid (And.intro W1 (And.intro R1 R2))
  have HS := Lib.hid (And.intro (And.intro hl1 (sl1.keep W1)) (And.intro (And.intro hl2 (sl2.keep W1)) (And.intro (And.intro hl3 (sl3.keep W1)) (And.intro hl4 (sl4.keep W1)))))
  clear ha hb hw1 hw2 ho1 ho2 sl1 sl2 sl3 sl4 W1 R1 R2 i9 j9
  obtain ⟨st, hst⟩ : ∃ x, s.state = x := ⟨_, rfl⟩
  obtain ⟨su, hsu⟩ : ∃ x, t.state = x := ⟨_, rfl⟩
  obtain ⟨ca, hca⟩ : ∃ x, s.cur = x := ⟨_, rfl⟩
  obtain ⟨cb, hcb⟩ : ∃ x, t.cur = x := ⟨_, rfl⟩
  obtain ⟨n1, hn1⟩ : ∃ x, sentS s = x := ⟨_, rfl⟩
  obtain ⟨n2, hn2⟩ : ∃ x, sentS t = x := ⟨_, rfl⟩
  have hq : eqS s t = (((((st == su) && decide (ca = cb)) && (n1 == n2)) && decide (s.wait = t.wait)) && decide (s.outs = t.outs)) := by unfold eqS; rw [hst, hsu, hca, hcb, hn1, hn2]
  rw [hst] at i1
  rw [hsu] at j1
  rw [hca] at i3'
  rw [hcb] at j3'
  rw [hn1] at i2
  rw [hn2] at j2
  rw [hq]
  clear hst hsu hca hcb hn1 hn2 hq
  by_cases h1 : st = su
  case neg =>
    have hres : (((((st == su) && decide (ca = cb)) && (n1 == n2)) && decide (s.wait = t.wait)) && decide (s.outs = t.outs)) = false := by
      simp [h1]
    rw [hres]
    have e1 : (st != su) = true := by simpa using h1
    clear hl1 hl2 hl3 hl4
    go_enter Tryd.func28, Tryd.ntmps28
    go_wp2
    go_ret
    exact ⟨rfl, HR.out.1⟩
  subst h1
  by_cases h2 : n1 = n2
  case neg =>
    have hres : (((((st == st) && decide (ca = cb)) && (n1 == n2)) && decide (s.wait = t.wait)) && decide (s.outs = t.outs)) = false := by
      simp [h2]
    rw [hres]
    have e1 : (n1 != n2) = true := by simpa using h2
    clear hl1 hl2 hl3 hl4
    go_enter Tryd.func28, Tryd.ntmps28
    go_wp2
    go_ret
    exact ⟨rfl, HR.out.1⟩
  subst h2
  by_cases h3 : ca = cb
  case neg =>
    have hres : (((((st == st) && decide (ca = cb)) && (n1 == n1)) && decide (s.wait = t.wait)) && decide (s.outs = t.outs)) = false := by
      simp [h3]
    rw [hres]
    have e1 : (!decide (ca = cb)) = true := by simp [h3]
    clear hl1 hl2 hl3 hl4
    go_enter Tryd.func28, Tryd.ntmps28
    go_wp2
    go_ret
    exact ⟨rfl, HR.out.1⟩
  subst h3
  by_cases h4 : l1 = l2
  case neg =>
    have hres : (((((st == st) && decide (ca = ca)) && (n1 == n1)) && decide (s.wait = t.wait)) && decide (s.outs = t.outs)) = false := by
      have : ¬ s.wait = t.wait := fun e => h4 (by rw [← hl1, ← hl2, e])
      simp [this]
    rw [hres]
    have e1 : ¬ ((l1 : Int) = (l2 : Int)) := by omega
    clear hl1 hl2 hl3 hl4
    go_enter Tryd.func28, Tryd.ntmps28
    go_wp2
    go_ret
    exact ⟨rfl, HR.out.1⟩
  subst h4
  by_cases h5 : l3 = l4
  case neg =>
    have hres : (((((st == st) && decide (ca = ca)) && (n1 == n1)) && decide (s.wait = t.wait)) && decide (s.outs = t.outs)) = false := by
      have : ¬ s.outs = t.outs := fun e => h5 (by rw [← hl3, ← hl4, e])
      simp [this]
    rw [hres]
    have e1 : ¬ ((l3 : Int) = (l4 : Int)) := by omega
    clear hl1 hl2 hl3 hl4
    go_enter Tryd.func28, Tryd.ntmps28
    go_wp2
    go_ret
    exact ⟨rfl, HR.out.1⟩
  subst h5
  obtain ⟨qw, hqw⟩ : ∃ q, decide (s.wait = t.wait) = q := ⟨_, rfl⟩
  obtain ⟨qo, hqo⟩ : ∃ q, decide (s.outs = t.outs) = q := ⟨_, rfl⟩
  have hres : (((((st == st) && decide (ca = ca)) && (n1 == n1)) && decide (s.wait = t.wait)) && decide (s.outs = t.outs)) = (qw && qo) := by rw [hqw, hqo]; simp
  rw [hres]
  have HQ := Lib.hid (And.intro hqw hqo)
  rw [hl1] at hm
  rw [hl3] at hm2
  clear hres hqw hqo hl1 hl2 hl3 hl4
  go_enter Tryd.func28, Tryd.ntmps28
  go_wp2
  clear i0 i1 i2 i3 i3' j0 j1 j2 j3 j3' hW

  go_loopw [5] (fun i wr => ∃ (k : Nat), k ≤ l1 ∧ i = .int .i64 (k : Int) ∧ Below W.heap.size W wr ∧ s.wait.take k = t.wait.take k) (fun i _ => l1 - (intOf i).toNat)
  case atStart => exact ⟨0, Nat.zero_le _, rfl, Below.refl _ _, rfl⟩
  case round =>
    obtain ⟨k, hk, rfl, hb, ht⟩ := hrel
    have HT := Lib.hid (And.intro hb ht)
    clear ht
    have r1 := cell_below i36 hb
    have r2 := cell_below j36 hb
    by_cases hlt : k < l1
    · have hlk : (k : Int) < (l1 : Int) := by omega
      have hl1 : k < s.wait.length := by rw [HS.out.1.1]; exact hlt
      have hl2 : k < t.wait.length := by rw [HS.out.2.1.1]; exact hlt
      obtain ⟨ad1, rfl, at1⟩ := Sl.at_ cA_length (HS.out.1.2.keep hb) hl1
      obtain ⟨ad2, rfl, at2⟩ := Sl.at_ cA_length (HS.out.2.1.2.keep hb) hl2
      have o1 := at1.ok
      have d1 := at1.rd
      have o2 := at2.ok
      have d2 := at2.rd
      rw [cA_length] at o1 d1 o2 d2
      change rdA _ _ _ = vA _ at d1
      change rdA _ _ _ = vA _ at d2
      have HS2 := Lib.hid (And.intro (List.take_succ_eq_append_getElem hl1) (List.take_succ_eq_append_getElem hl2))
      clear at1 at2
      generalize (s.wait[k]'hl1) = x at d1 HS2
      generalize (t.wait[k]'hl2) = y at d2 HS2
      clear hb i36 j36 i37 j37
      by_cases hxy : x = y
      · subst hxy
        go_wp2
        go_quiet (fail)
        go_wp2
        go_roundw
        case rel => exact ⟨k + 1, hlt, by go_num, Below.step HT.out.1 (below_drewN _ _), by rw [HS2.out.1, HS2.out.2, HT.out.2]⟩
        case measure => simp [intOf] <;> omega
      · have hqf : qw = false := by
          rw [← HQ.out.1]
          refine decide_eq_false fun e => hxy ?_
          have h1 := HS2.out.1
          have h2 := HS2.out.2
          rw [e] at h1
          have h3 := h1.symm.trans h2
          simpa using h3
        subst hqf
        have hxy2 : (!decide (x = y)) = true := by simp [hxy]
        go_wp2
        go_quiet (fail)
        go_wp2
        go_ret
        exact ⟨by rfl, Below.step (Below.step HR.out.1 HT.out.1) (below_drewN _ _)⟩
    · have hkn : k = l1 := by omega
      subst hkn
      have hqt : qw = true := by
        rw [← HQ.out.1]
        refine decide_eq_true ?_
        have h := HT.out.2
        rwa [List.take_of_length_le (by rw [HS.out.1.1]; exact Nat.le_refl _), List.take_of_length_le (by rw [HS.out.2.1.1]; exact Nat.le_refl _)] at h
      subst hqt

      have HB1 := Lib.hid hb
      obtain ⟨wr1, hwr1⟩ : ∃ wr1, wr1 = wr := ⟨_, rfl⟩
      subst hwr1
      have z37 := cell_below i37 hb
      have y37 := cell_below j37 hb
      clear hb i36 j36 i37 j37 HT hlt hk
      go_wp2
      clear r1
      go_loopw [6] (fun i wr => ∃ (k : Nat), k ≤ l3 ∧ i = .int .i64 (k : Int) ∧ Below wr1.heap.size wr1 wr ∧ s.outs.take k = t.outs.take k) (fun i _ => l3 - (intOf i).toNat)
      case atStart => exact ⟨0, Nat.zero_le _, rfl, Below.refl _ _, rfl⟩
      case round =>
        obtain ⟨k, hk, rfl, hb, ht⟩ := hrel
        have HT := Lib.hid (And.intro hb ht)
        clear ht
        have r1 := cell_below z37 hb
        have r2 := cell_below y37 hb
        by_cases hlt : k < l3
        · have hlk : (k : Int) < (l3 : Int) := by omega
          have hl1 : k < s.outs.length := by rw [HS.out.2.2.1.1]; exact hlt
          have hl2 : k < t.outs.length := by rw [HS.out.2.2.2.1]; exact hlt
          obtain ⟨ad1, rfl, at1⟩ := Sl.at_ cO_length (HS.out.2.2.1.2.keep (Below.step HB1.out hb)) hl1
          obtain ⟨ad2, rfl, at2⟩ := Sl.at_ cO_length (HS.out.2.2.2.2.keep (Below.step HB1.out hb)) hl2
          have o1 := at1.ok
          have d1 := at1.rd
          have o2 := at2.ok
          have d2 := at2.rd
          rw [cO_length] at o1 d1 o2 d2
          change rdA _ _ _ = vO _ at d1
          change rdA _ _ _ = vO _ at d2
          have HS2 := Lib.hid (And.intro (List.take_succ_eq_append_getElem hl1) (List.take_succ_eq_append_getElem hl2))
          clear at1 at2
          generalize (s.outs[k]'hl1) = x at d1 HS2
          generalize (t.outs[k]'hl2) = y at d2 HS2
          clear hb z37 y37
          by_cases hxy : x = y
          · subst hxy
            go_wp2
            go_quiet (fail)
            go_wp2
            go_roundw
            case rel => exact ⟨k + 1, hlt, by go_num, Below.step HT.out.1 (below_drewN _ _), by rw [HS2.out.1, HS2.out.2, HT.out.2]⟩
            case measure => simp [intOf] <;> omega
          · have hqf : qo = false := by
              rw [← HQ.out.2]
              refine decide_eq_false fun e => hxy ?_
              have h1 := HS2.out.1
              have h2 := HS2.out.2
              rw [e] at h1
              have h3 := h1.symm.trans h2
              simpa using h3
            subst hqf
            have hxy2 : (!decide (x = y)) = true := by simp [hxy]
            go_wp2
            go_quiet (fail)
            go_wp2
            go_ret
            exact ⟨by simp, Below.step (Below.step HR.out.1 (Below.step HB1.out HT.out.1)) (below_drewN _ _)⟩
        · have hkn : k = l3 := by omega
          subst hkn
          have hqt : qo = true := by
            rw [← HQ.out.2]
            refine decide_eq_true ?_
            have h := HT.out.2
            rwa [List.take_of_length_le (by rw [HS.out.2.2.1.1]; exact Nat.le_refl _), List.take_of_length_le (by rw [HS.out.2.2.2.1]; exact Nat.le_refl _)] at h
          subst hqt
          clear hb
          go_wp2
          go_ret
          exact ⟨rfl, Below.step (Below.step HR.out.1 HB1.out) HT.out.1⟩
end Go.Proofs.YtlelecnafdddhaaDoor
