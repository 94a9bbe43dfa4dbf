/- Check of package references and of the reference: the loops. -/
import Derived.Test.YtcchpenaiomeeaaChk
import Derived.BigQuiet
namespace Go.Proofs.Ytcchpenaiomeeaa
open Go.RowKit
theorem chkL_step {seen : List Id} {xs : List Id} {k : Nat} (hk : k < xs.length) (h : nextE (xs.take k) xs[k] = 0) (ht : chkL seen xs = chkL (xs.take k) (xs.drop k)) : chkL seen xs = chkL (xs.take (k + 1)) (xs.drop (k + 1)) := by
  rw [ht, List.drop_eq_getElem_cons hk, chkL, if_pos h, List.take_succ_eq_append_getElem hk]
theorem chkL_stop {seen : List Id} {xs : List Id} {k : Nat} (hk : k < xs.length) (h : ¬ nextE (xs.take k) xs[k] = 0) (ht : chkL seen xs = chkL (xs.take k) (xs.drop k)) : chkL seen xs = nextE (xs.take k) xs[k] := by
  rw [ht, List.drop_eq_getElem_cons hk, chkL, if_neg h]
theorem chkL_end {seen : List Id} {xs : List Id} (ht : chkL seen xs = chkL (xs.take xs.length) (xs.drop xs.length)) : chkL seen xs = 0 := by
  rw [ht, List.drop_length, chkL]
set_option maxRecDepth 100000 in
set_option maxHeartbeats 1600000 in
theorem check25 (A : Option Addr) (c n : Nat) (xs : List Id) (w : World) (hl : xs.length = n) (hx : Sl w cI A xs) :
    Calls Try.prog 25 #[.slice A n c] w fun e w' => e = .returned (.int .i64 (chk xs)) ∧ Below w.heap.size w w' := by
  subst hl
  by_cases h1 : 20 < xs.length
  · have h2 : (20 : Int) < (xs.length : Int) := by omega
    have e : chk xs = 9 := by unfold chk; rw [if_pos h1]
    rw [e]
    clear e h1 hx
    go_enter Try.func25, Try.ntmps25
    go_wp2_with fail
    go_ret
    exact ⟨rfl, Below.refl _ _⟩
  · have h2 : ¬ (20 : Int) < (xs.length : Int) := by omega
    have e : chk xs = chkL [] xs := by unfold chk; rw [if_neg h1]
    rw [e]
    have HX := Lib.hid (And.intro hx h1)
    clear e h1 hx
    have hmm := @run_makeMap Try.prog
    go_enter Try.func25, Try.ntmps25
    go_wp2_with fail
    clear hmm
    go_loopw [13] (fun i wr => ∃ k : Nat, k ≤ xs.length ∧ i = .int .i64 k ∧ chkL [] xs = chkL (xs.take k) (xs.drop k) ∧ Below w.heap.size w wr ∧ Mp wr w.heap.size (xs.take k)) (fun i _ => xs.length - (intOf i).toNat)
    case atStart => exact ⟨0, Nat.zero_le _, rfl, rfl, below_alloc _ _, Mp.made w⟩
    case round =>
      obtain ⟨k, hk, rfl, ht, hb, hm⟩ := hrel
      have hle := HX.out.2
      by_cases hlt : k < xs.length
      · obtain ⟨ad, rfl, hok, hrd⟩ := Sl.rd (HX.out.1.keep hb) hlt
        have h3 : (0 : Int) ≤ (k : Int) := by omega
        have h4 : (k : Int) < (xs.length : Int) := by omega
        have hlm : (xs.take k).length < maxLen := by simp [maxLen]; omega
        by_cases he : nextE (xs.take k) xs[k] = 0
        · have hs := chkL_step hlt he ht
          have H := Lib.hid (And.intro hs (And.intro hb (And.intro hm (And.intro hlm (And.intro he (And.intro hle (And.intro hk hlt)))))))
          have ht2 := List.take_succ_eq_append_getElem hlt
          have HT := Lib.hid ht2
          clear hs hb hm hlm ht hle hk ht2 he
          go_wp2_with (go_at_call 40; (refine (next40 xs[k] _ _ _ (H.out.2.2.1.kept (below_alloc wr (.cells (aI xs[k]) 33))) H.out.2.2.2.1).mono ?_; rintro e w2 ⟨rfl, hg2, hm2⟩; have hz : nextE (xs.take k) xs[k] = 0 := H.out.2.2.2.2.1; have H2 := Lib.hid (And.intro (Below.step H.out.2.1 (below_alloc wr (.cells (aI xs[k]) 33))) (And.intro hg2 (hm2 hz))); clear hg2 hm2))
          go_roundw
          case rel => exact ⟨k + 1, hlt, by go_num, H.out.1, H2.out.1.trans (Mp.grown (Nat.le_refl _) H2.out.2.1 H2.out.1.size), by rw [HT.out]; exact H2.out.2.2⟩
          case measure => simp [intOf]; omega
        · have hs := chkL_stop hlt he ht
          have h5 : (nextE (xs.take k) xs[k] != 0) = true := by simp [he]
          have H := Lib.hid (And.intro hs (And.intro hb (And.intro hm (And.intro hlm (And.intro he hle)))))
          clear hs hb hm hlm ht hle hk he
          go_wp2_with (go_at_call 40; (refine (next40 xs[k] _ _ _ (H.out.2.2.1.kept (below_alloc wr (.cells (aI xs[k]) 33))) H.out.2.2.2.1).mono ?_; rintro e w2 ⟨rfl, hg2, hm2⟩; have H2 := Lib.hid (And.intro (Below.step H.out.2.1 (below_alloc wr (.cells (aI xs[k]) 33))) hg2); clear hg2 hm2))
          go_ret
          exact ⟨congrArg (fun i => Ending.returned (.int .i64 i)) H.out.1.symm, H2.out.1.trans (Mp.grown (Nat.le_refl _) H2.out.2 H2.out.1.size)⟩
      · have hkn : k = xs.length := by omega
        subst hkn
        have H := Lib.hid (And.intro (chkL_end ht) hb)
        clear ht hb hm
        go_wp2
        go_ret
        exact ⟨congrArg (fun i => Ending.returned (.int .i64 i)) H.out.1.symm, H.out.2⟩
/-- The answer of the membership test. -/
theorem take_mem {xs : List Id} {k : Nat} {x : Id} (hk : k < xs.length) (h : ¬ x ∈ xs.take k) (hx : ¬ xs[k] = x) : ¬ x ∈ xs.take (k + 1) := by
  rw [List.take_succ_eq_append_getElem hk, List.mem_append]
  rintro (h1 | h1)
  · exact h h1
  · exact hx (List.mem_singleton.1 h1).symm
set_option maxHeartbeats 800000 in
theorem has44 (A : Option Addr) (c n : Nat) (x : Id) (xs : List Id) (w : World) (hl : xs.length = n) (hx : Sl w cI A xs) (hm : xs.length ≤ 4294967296) :
    Calls Try.prog 44 #[.slice A n c, vI x] w fun e w' => e = .returned (.bool (decide (x ∈ xs))) ∧ Below w.heap.size w w' := by
  subst hl
  have HB := Lib.hid (below_alloc w (.cells (aI x) 38))
  have HA := Lib.hid (And.intro (At.ok (at_new w (cI x) 38 w.heap.size rfl)) (At.rd (at_new w (cI x) 38 w.heap.size rfl)))
  go_enter Try.func44, Try.ntmps44
  go_wp2
  go_loopw [5] (fun i wr => ∃ k m : Nat, k ≤ xs.length ∧ i = .int .i64 k ∧ (¬ x ∈ xs.take k) ∧ wr = (w.alloc (.cells (aI x) 38)).drewN m) (fun i _ => xs.length - (intOf i).toNat)
  case atStart => exact ⟨0, 0, Nat.zero_le _, rfl, by simp, rfl⟩
  case round =>
    obtain ⟨k, m, hk, rfl, ht, rfl⟩ := hrel
    by_cases hlt : k < xs.length
    · obtain ⟨ad, rfl, hok, hrd⟩ := Sl.rd (hx.keep HB.out) hlt
      have hok2 := HA.out.1
      have hrd2 := HA.out.2
      rw [cI_length] at hok2 hrd2
      have h1 : (0 : Int) ≤ (k : Int) := by omega
      have h2 : (k : Int) < (xs.length : Int) := by omega
      by_cases he : xs[k] = x
      · have hd : decide (xs[k] = x) = true := by simp [he]
        have HE := Lib.hid (he ▸ List.getElem_mem hlt : x ∈ xs)
        clear he ht hx
        go_wp2
        go_quiet (fail)
        go_wp2
        go_ret
        refine ⟨?_, Below.step HB.out (Below.step (below_drewN _ m) (below_drewN _ nq))⟩
        have := HE.out
        simp [this]
      · have hd : decide (xs[k] = x) = false := by simp [he]
        have H := Lib.hid (take_mem hlt ht he); clear he ht hx
        go_wp2
        go_quiet (fail)
        go_wp2
        go_roundw
        case rel => exact ⟨k + 1, m + nq, hlt, by go_num, H.out, by first | rfl | exact World.drewN_drewN _ _ _⟩
        case measure => simp [intOf]; omega
    · have hkn : k = xs.length := by omega
      subst hkn
      have H := Lib.hid ht; clear ht hx
      go_wp2
      go_ret
      refine ⟨?_, Below.step HB.out (below_drewN _ _)⟩
      have := H.out
      rw [List.take_length] at this
      simp [this]
set_option maxRecDepth 100000 in
set_option maxHeartbeats 1600000 in
theorem check37 (A : Option Addr) (c n : Nat) (xs : List Id) (w : World) (hl : xs.length = n) (hc : n ≤ c) (hx : Sl w cI A xs) :
    Calls Try.prog 37 #[.slice A n c] w fun e w' => e = .returned (.int .i64 (chk xs)) ∧ Below w.heap.size w w' := by
  subst hl
  by_cases h1 : 20 < xs.length
  · have h2 : (20 : Int) < (xs.length : Int) := by omega
    have e : chk xs = 9 := by unfold chk; rw [if_pos h1]
    rw [e]
    clear e h1 hx
    go_enter Try.func37, Try.ntmps37
    go_wp2_with fail
    go_ret
    exact ⟨rfl, Below.refl _ _⟩
  · have h2 : ¬ (20 : Int) < (xs.length : Int) := by omega
    have e : chk xs = chkL [] xs := by unfold chk; rw [if_neg h1]
    rw [e]
    have HX := Lib.hid (And.intro hx (And.intro h1 hc))
    clear e h1 hx
    go_enter Try.func37, Try.ntmps37
    go_wp2_with fail
    go_loopw [3] (fun i wr => ∃ k : Nat, k ≤ xs.length ∧ i = .int .i64 k ∧ chkL [] xs = chkL (xs.take k) (xs.drop k) ∧ Below w.heap.size w wr) (fun i _ => xs.length - (intOf i).toNat)
    case atStart => exact ⟨0, Nat.zero_le _, rfl, rfl, Below.refl _ _⟩
    case round =>
      obtain ⟨k, hk, rfl, ht, hb⟩ := hrel
      have hle := HX.out.2.1
      by_cases hlt : k < xs.length
      · obtain ⟨ad, rfl, hok, hrd⟩ := Sl.rd (HX.out.1.keep hb) hlt
        have h3 : (0 : Int) ≤ (k : Int) := by omega
        have h4 : (k : Int) < (xs.length : Int) := by omega
        have h6 : (k : Int) ≤ (c : Int) := by omega
        have hT := (HX.out.1.keep hb).take k
        by_cases hz : xs[k] = zI
        · have hdz : decide (xs[k] = zI) = true := by simp [hz]
          have he : nextE (xs.take k) xs[k] = 1 := by unfold nextE; rw [if_pos hz]
          have hs := (chkL_stop hlt (by rw [he]; decide) ht).trans he
          have H := Lib.hid (And.intro hs hb)
          clear hs hb hT ht hle hk hz he
          go_wp2_with fail
          go_ret
          exact ⟨congrArg (fun i => Ending.returned (.int .i64 i)) H.out.1.symm, H.out.2⟩
        · have hdz : decide (xs[k] = zI) = false := by simp [hz]
          have hlk : (xs.take k).length = k := by rw [List.length_take]; omega
          have hb4 : (xs.take k).length ≤ 4294967296 := by omega
          by_cases hm : xs[k] ∈ xs.take k
          · have hdm : decide (xs[k] ∈ xs.take k) = true := by simp [hm]
            have he : nextE (xs.take k) xs[k] = 7 := by unfold nextE; rw [if_neg hz, if_pos hm]
            have hs := (chkL_stop hlt (by rw [he]; decide) ht).trans he
            have H := Lib.hid (And.intro hs (And.intro hb (And.intro hT (And.intro hlk hb4))))
            clear hs hb hT ht hle hk hz he hm hlk hb4
            go_wp2_with fail
            go_still_tail 7, (by kernel_rfl)
            change wpList _ _ _ _ _ wr.drew
            have HD := Lib.hid (below_drew wr)
            generalize wr.drew = w2 at *
            go_wp2_with (go_at_call 44; go_loud (refine (has44 _ _ _ xs[k] (xs.take k) _ H.out.2.2.2.1 (H.out.2.2.1.keep HD.out) H.out.2.2.2.2).mono ?_; rintro e w3 ⟨rfl, hb3⟩; have H2 := Lib.hid (Below.step HD.out hb3); clear hb3))
            go_ret
            exact ⟨congrArg (fun i => Ending.returned (.int .i64 i)) H.out.1.symm, Below.step H.out.2.1 H2.out⟩
          · have hdm : decide (xs[k] ∈ xs.take k) = false := by simp [hm]
            have he : nextE (xs.take k) xs[k] = 0 := by unfold nextE; rw [if_neg hz, if_neg hm]
            have hs := chkL_step hlt he ht
            have H := Lib.hid (And.intro hs (And.intro hb (And.intro hT (And.intro hlk hb4))))
            have HK := Lib.hid (And.intro hlt hle)
            clear hs hb hT ht hle hk hz he hm hlk hb4
            go_wp2_with fail
            go_still_tail 7, (by kernel_rfl)
            change wpList _ _ _ _ _ wr.drew
            have HD := Lib.hid (below_drew wr)
            generalize wr.drew = w2 at *
            go_wp2_with (go_at_call 44; go_loud (refine (has44 _ _ _ xs[k] (xs.take k) _ H.out.2.2.2.1 (H.out.2.2.1.keep HD.out) H.out.2.2.2.2).mono ?_; rintro e w3 ⟨rfl, hb3⟩; have H2 := Lib.hid (Below.step HD.out hb3); clear hb3))
            have hk20 := HK.out.2
            go_roundw
            case rel => exact ⟨k + 1, hlt, by go_num, H.out.1, Below.step H.out.2.1 H2.out⟩
            case measure => simp [intOf]; omega
      · have hkn : k = xs.length := by omega
        subst hkn
        have H := Lib.hid (And.intro (chkL_end ht) hb)
        clear ht hb
        go_wp2
        go_ret
        exact ⟨congrArg (fun i => Ending.returned (.int .i64 i)) H.out.1.symm, H.out.2⟩
end Go.Proofs.Ytcchpenaiomeeaa
