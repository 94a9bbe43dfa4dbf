/- What Pack checks: the number of items, the length of each, the length of all. -/
import Derived.Test.YtecalodcbkljoaaDoorMIt3
namespace Go.Proofs.YtecalodcbkljoaaDoor
open Go.RowKit
theorem sumN_take (l : List It) (t : Nat) (h : t < l.length) : sumN (l.take (t + 1)) = sumN (l.take t) + itN l[t] := by
  rw [List.take_succ_eq_append_getElem h]
  simp only [sumN, List.map_append, List.sum_append, List.map_cons, List.map_nil, List.sum_cons, List.sum_nil, Nat.add_zero]
theorem sumN_bound (l : List It) (h : ∀ x ∈ l, x.text.size ≤ 65536) : sumN l ≤ l.length * 65700 := by
  induction l with
  | nil => simp [sumN]
  | cons x r ih =>
    have h1 := ih (fun y hy => h y (List.mem_cons_of_mem _ hy))
    have h2 := h x List.mem_cons_self
    have h3 : itN x ≤ 65700 := by
      unfold itN
      have := itoa_len 10 x.text.size (by omega) (by omega)
      omega
    simp only [sumN, List.map_cons, List.sum_cons, List.length_cons] at h1 ⊢
    omega
set_option maxRecDepth 100000 in
set_option maxHeartbeats 3200000 in
theorem check_l (A : Option Addr) (c : Nat) (l : List It) (r : Nat × Int) (hr : chkB l = r) (w : World) (hL : Laid w) (hs : Sl w cX A l) (hn : l.length ≤ 1073741824) (hx : ∀ x ∈ l, x.text.size ≤ 1073741824) :
    Calls Tryd.prog 23 #[.slice A l.length c] w fun e w' => e = .returned (.tuple #[.int .i64 (r.1 : Int), .int .i64 r.2]) ∧ Below w.heap.size w w' := by
  have HX := Lib.hid (And.intro hL (And.intro hs hx))
  by_cases h1 : 1000 < l.length
  · have hr2 : r = (0, 9) := by rw [← hr]; unfold chkB; rw [if_pos h1]
    subst hr2
    have h2 : (1000 : Int) < (l.length : Int) := by omega
    clear hL hs hx hr
    go_enter Tryd.func23, Tryd.ntmps23
    go_wp2
    go_ret2
    exact ⟨rfl, Below.refl _ _⟩
  · have HR := Lib.hid hr
    have HN := Lib.hid (show l.length ≤ 1000 by omega)
    have h2 : ¬ (1000 : Int) < (l.length : Int) := by omega
    clear hL hs hx hr hn h1
    go_enter Tryd.func23, Tryd.ntmps23
    go_wp2
    clear h2
    go_loopw [4, 13] (fun v i wr => ∃ t : Nat, t ≤ l.length ∧ i = .int .i64 t ∧ v = .int .i64 (sumN (l.take t) : Int) ∧ (∀ x ∈ l.take t, x.text.size ≤ 65536) ∧ Below w.heap.size w wr) (fun _ i _ => l.length - (intOf i).toNat)
    case atStart => exact ⟨0, Nat.zero_le _, rfl, rfl, fun x hx => by simp at hx, Below.refl _ _⟩
    case round =>
      obtain ⟨t, ht, rfl, rfl, hall, hb⟩ := hrel
      have HB := Lib.hid hb
      have HA := Lib.hid hall
      clear hb hall
      by_cases hlt : t < l.length
      · obtain ⟨ad, rfl, hat⟩ := Sl.at_ cX_length (HX.out.2.1.keep HB.out) hlt
        obtain ⟨x, hxe⟩ : ∃ x, l[t] = x := ⟨_, rfl⟩
        rw [hxe] at hat
        have hok := hat.ok
        have hrd := hat.rd
        rw [cX_length] at hok hrd
        change rdA wr (ad.add (t * 33)) 33 = vX x at hrd
        have hlti : (t : Int) < (l.length : Int) := by omega
        have hT : (t : Int) < 1000 := by have := HN.out; omega
        have HM := Lib.hid (show x.text.size ≤ 1073741824 from HX.out.2.2 x (by rw [← hxe]; exact List.getElem_mem _))
        have HXE := Lib.hid hxe
        clear hat hxe
        by_cases hbig : 65536 < x.text.size
        · have hbi : (65536 : Int) < (x.text.size : Int) := by omega
          have hr2 : r = (0, 5) := by
            rw [← HR.out]; unfold chkB
            have h1 := HN.out
            rw [if_neg (by omega), if_pos]
            rw [List.any_eq_true]
            exact ⟨x, by rw [← HXE.out]; exact List.getElem_mem _, by simpa using hbig⟩
          subst hr2
          have H2 := Lib.hid (Below.step HB.out (below_alloc wr (.cells (aX x) 39)))
          go_wp2
          go_ret2
          exact ⟨rfl, H2.out⟩
        · have hbi : ¬ (65536 : Int) < (x.text.size : Int) := by omega
          have HS := Lib.hid (show sumN (l.take (t + 1)) = sumN (l.take t) + itN x by rw [sumN_take l t hlt, HXE.out])
          have HBD := Lib.hid (sumN_bound (l.take t) HA.out)
          have HI := Lib.hid (show itN x ≤ 70000 by unfold itN; have := itoa_len 10 x.text.size (by omega) (by omega); omega)
          have hw : IntKind.i64.wrap ((sumN (l.take t) : Int) + (itN x : Int)) = (sumN (l.take (t + 1)) : Int) := (IntWalk.i64_in _ (by
            have h1 := HBD.out
            have h2 := HI.out
            have h3 := HN.out
            rw [List.length_take] at h1
            omega)).trans (by have := HS.out; omega)
          have HA2 := Lib.hid (show ∀ y ∈ l.take (t + 1), y.text.size ≤ 65536 from by
            intro y hy
            rw [List.take_succ_eq_append_getElem hlt, List.mem_append] at hy
            rcases hy with hy | hy
            · exact HA.out y hy
            · simp only [List.mem_cons, List.not_mem_nil, or_false] at hy
              rw [hy, HXE.out]
              omega)
          have H2 := Lib.hid (Below.step HB.out (below_alloc wr (.cells (aX x) 39)))
          clear hbig
          go_wp2_with (go_at_call 42; refine (bytes_i x _ (HX.out.1.keep H2.out) HM.out).mono ?_; rintro e w3 ⟨rfl, hb3⟩; have H3 := Lib.hid (Below.step H2.out hb3); clear hb3)
          go_roundw
          case rel => exact ⟨t + 1, hlt, by go_num, rfl, HA2.out, H3.out⟩
          case measure => simp [intOf]; omega
      · obtain rfl : t = l.length := by omega
        have htk : l.take l.length = l := List.take_length
        rw [htk] at HA
        have HBD := Lib.hid (sumN_bound l HA.out)
        obtain ⟨n, hn⟩ : ∃ n, sizeN l.length (sumN l) = n := ⟨_, rfl⟩
        have HNN := Lib.hid hn
        have HSZ := Lib.hid (fun W hW => size_l l.length (sumN l) (by have := HN.out; omega) (by have := HBD.out; have := HN.out; omega) W hW)
        rw [hn] at HSZ
        have hany : (l.any fun x => decide (65536 < x.text.size)) = false := by
          rw [List.any_eq_false]
          intro y hy
          have := HA.out y hy
          simp
          omega
        have hr2 : r = if 4194304 < n then (0, 5) else (n, 0) := by
          rw [← HR.out]; unfold chkB
          have h1 := HN.out
          rw [if_neg (by omega), hany, hn]
          rfl
        clear hn hany hlt
        rw [htk]
        by_cases hbig : 4194304 < n
        · rw [if_pos hbig] at hr2
          subst hr2
          have hbi : (4194304 : Int) < (n : Int) := by omega
          go_wp2_with (go_at_call 43; refine (HSZ.out _ (HX.out.1.keep HB.out)).mono ?_; rintro e w3 ⟨rfl, hb3⟩; have H3 := Lib.hid (Below.step HB.out hb3); clear hb3)
          go_ret2
          exact ⟨rfl, H3.out⟩
        · rw [if_neg hbig] at hr2
          subst hr2
          have hbi : ¬ (4194304 : Int) < (n : Int) := by omega
          go_wp2_with (go_at_call 43; refine (HSZ.out _ (HX.out.1.keep HB.out)).mono ?_; rintro e w3 ⟨rfl, hb3⟩; have H3 := Lib.hid (Below.step HB.out hb3); clear hb3)
          go_ret2
          exact ⟨rfl, H3.out⟩
set_option maxHeartbeats 800000 in
theorem size_of (A : Option Addr) (c : Nat) (l : List It) (r : Nat × Int) (hr : chkB l = r) (w : World) (hL : Laid w) (hs : Sl w cX A l) (hn : l.length ≤ 1073741824) (hx : ∀ x ∈ l, x.text.size ≤ 1073741824) :
    Calls Tryd.prog 14 #[.slice A l.length c] w fun e w' => e = .returned (.int .i64 (r.1 : Int)) ∧ Below w.heap.size w w' := by
  have H := Lib.hid (check_l A c l r hr w hL hs hn hx)
  clear hL hs hn hx hr
  go_enter Tryd.func14, Tryd.ntmps14
  go_wp2_with (go_at_call 23; refine H.out.mono ?_; rintro e w3 ⟨rfl, hb3⟩; have H3 := Lib.hid hb3; clear hb3)
  go_ret
  exact ⟨rfl, H3.out⟩
end Go.Proofs.YtecalodcbkljoaaDoor
