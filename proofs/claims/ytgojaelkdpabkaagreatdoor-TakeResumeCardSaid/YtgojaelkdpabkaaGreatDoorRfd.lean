/- The reference's Find. -/
import Derived.Test.YtgojaelkdpabkaaGreatDoorFrm
namespace Go.Proofs.YtgojaelkdpabkaaGreatDoor
open Go.RowKit
set_option maxRecDepth 100000 in
set_option maxHeartbeats 1600000 in
theorem refFind49 (A : Option Addr) (c : Nat) (l : List Pt) (x : Id) (w : World) (hl : Sl w cA A l) (hn : l.length ≤ 1000000) :
    Calls Tryz.prog 49 #[.slice A l.length c, vI x] w fun e w' => e = .returned (.int .i64 (idxL l x)) ∧ Below w.heap.size w w' := by
  obtain ⟨b, hb⟩ : ∃ b, w.heap.size = b := ⟨_, rfl⟩
  have H1 := Lib.hid (And.intro (show Row (w.alloc (.cells (aI x) 29)) b (cI x) 29 by rw [← hb]; exact Row.new w (cI x) _) (And.intro (hl.keep (below_alloc w (.cells (aI x) 29))) (below_alloc w (.cells (aI x) 29))))
  obtain ⟨W1, hW1⟩ : ∃ W1, w.alloc (.cells (aI x) 29) = W1 := ⟨_, rfl⟩
  rw [hW1] at H1
  clear hl
  go_enter Tryz.func49, Tryz.ntmps49
  go_wp2
  go_loopw [5] (fun i wr => ∃ k : Nat, i = .int .i64 k ∧ k ≤ l.length ∧ (∀ j (hj : j < k) (hj2 : j < l.length), l[j].id ≠ x) ∧ Below W1.heap.size W1 wr) (fun i _ => l.length + 1 - (intOf i).toNat)
  case atStart => exact ⟨0, rfl, Nat.zero_le _, fun j hj => absurd hj (Nat.not_lt_zero _), Below.refl _ _⟩
  case round =>
    obtain ⟨k, rfl, hk, hp, hb2⟩ := hrel
    by_cases hlt : k < l.length
    · have hlt1 : (k : Int) < (l.length : Int) := by omega
      obtain ⟨ad, rfl, -, -, hat⟩ := Sl.pt (H1.out.2.1.keep hb2) hlt
      obtain ⟨ok1, rd1⟩ := hat.id
      obtain ⟨p, hpp⟩ : ∃ p, l[k] = p := ⟨_, rfl⟩
      rw [hpp] at rd1
      have rr := Row.okw (H1.out.1.keep hb2) (cI_length x)
      have r1 := rr.1
      have r2 : rdA wr ⟨b, 0, none⟩ 32 = vI x := rr.2
      have HP := Lib.hid hpp
      have HB := Lib.hid (And.intro hp (Below.step H1.out.2.2 hb2))
      have HB2 := Lib.hid hb2
      clear hp hb2 hpp hat rr
      by_cases hx : p.id = x
      · have hd : decide (p.id = x) = true := decide_eq_true hx
        have HN := Lib.hid (idx_some (pos_hit (l := l) (x := x) hlt (fun j hj => HB.out.1 j hj (by omega)) (by rw [HP.out]; exact hx)))
        clear hx
        go_wp2
        go_quiet (fail)
        go_wp2
        go_ret
        exact ⟨by rw [HN.out]; rfl, Below.step HB.out.2 (below_drewN _ _)⟩
      · have hd : decide (p.id = x) = false := decide_eq_false hx
        have HXX := Lib.hid hx
        clear hx
        go_wp2
        go_quiet (fail)
        go_wp2
        go_roundw
        case rel =>
          refine ⟨k + 1, by go_num, by omega, fun j hj hj2 => ?_, Below.step HB2.out (below_drewN _ _)⟩
          rcases Nat.lt_succ_iff_lt_or_eq.1 hj with h | h
          · exact HB.out.1 j h hj2
          · subst h
            rw [HP.out]
            exact HXX.out
        case measure => simp [intOf] <;> omega
    · have hlt1 : ¬ (k : Int) < (l.length : Int) := by omega
      have HN := Lib.hid (idx_none (pos_none (l := l) (x := x) fun j hj => hp j (by omega) hj))
      have HB := Lib.hid (Below.step H1.out.2.2 hb2)
      clear hp hb2
      go_wp2
      go_ret
      exact ⟨by rw [HN.out]; rfl, by rw [← hb]; exact HB.out⟩
end Go.Proofs.YtgojaelkdpabkaaGreatDoor
