/- slices.Clone, Grow and Concat at identities: they make new memory alone, and hand back a slice that reads as the list. -/
import Derived.Test.YtcchpenaiomeeaaLaws

namespace Go.Proofs.Ytcchpenaiomeeaa
open Go.RowKit
set_option maxHeartbeats 400000 in
theorem clone34 (A : Option Addr) (c : Nat) (xs : List Id) (w : World) (hx : Sl w cI A xs) (hn : xs.length * 32 ≤ 140737488355328) :
    Calls Try.prog 34 #[.slice A xs.length c] w (Out w xs) := by
  cases A with
  | none =>
    obtain rfl := Sl.none_ hx
    clear hx hn
    go_enter Try.func34, Try.ntmps34
    go_wp2
    go_ret
    exact ⟨none, 0, 0, rfl, rfl, Nat.le_refl _, Below.refl _ _, Sl.nil _ _ _⟩
  | some ad =>
    go_enter Try.func34, Try.ntmps34
    have HX := Lib.hid hx; clear hx
    go_wp2_with ((at_builtin; refine wpList_append_sl _ rfl (.tmp 5) (.tmp 6) 24 rfl w.heap.size 33 32 32 cI under24 row33 (by decide) cI_length cI_one _ [] rfl ?hown _ _ _ xs rfl rfl ?hsl ?h1 ?h2 ?h3 ?_))
    case hown => exact Own.newI w w.heap.size 33 [] (Nat.le_refl _) (by simp)
    case hsl => exact HX.out.keep (below_alloc _ _)
    case h1 => simp; omega
    case h2 => simp; omega
    case h3 => simp
    intro v' w' ho hg
    have hb := Own.grew (Own.newI w w.heap.size 33 [] (Nat.le_refl _) (by simp)) hg (below_alloc _ _) (Nat.le_refl _) (by simp)
    have H := Lib.hid (And.intro hb ho); clear hb ho hg
    go_wp2
    go_ret
    exact Out.mk H.out.1 H.out.2

set_option maxHeartbeats 400000 in
theorem grow53 (n : Nat) (w : World) (hn : n * 32 ≤ 140737488355328) :
    Calls Try.prog 53 #[.slice none 0 0, .int .i64 (n : Int)] w fun e w' => ∃ v, e = .returned v ∧ Below w.heap.size w w' ∧ Own w' w.heap.size 33 32 cI v ([] : List Id) := by
  by_cases h0 : n = 0
  · subst h0
    go_enter Try.func53, Try.ntmps53
    go_wp2
    go_ret
    exact ⟨_, rfl, Below.refl _ _, Own.nil _ _ _ _ _⟩
  · have hpos : 0 < n := by omega
    clear h0
    go_enter Try.func53, Try.ntmps53
    go_wp2_with ((at_builtin; refine wpList_append_nil_zeros _ rfl (.tmp 20) (.tmp 21) 24 3 rfl 33 32 32 .i64 .i64 under24 Try.underlying3 row33 (by decide) n rfl rfl hpos hn (by omega) ?_; intro C cur hC hCm hcur))
    have ho : Own (w.alloc (.cells cur 33)) w.heap.size 33 32 cI (.slice (some ⟨w.heap.size, 0, none⟩) 0 C) ([] : List Id) := World.ownsRow_made w cur C (Nat.le_refl _) hCm hcur
    have H := Lib.hid ho; clear ho hCm hcur hn hpos hC
    go_wp2

    go_ret
    exact ⟨_, rfl, (below_alloc _ _).drew, H.out⟩
/-- Slices, as the arguments of Concat. -/
abbrev Sls := List (Option Addr × Nat × List Id)
def tot (L : Sls) : Nat := (L.map fun x => x.2.2.length).sum
def cat (L : Sls) : List Id := L.flatMap fun x => x.2.2
theorem tot_succ (L : Sls) (k : Nat) (hk : k < L.length) : tot (L.take (k + 1)) = tot (L.take k) + L[k].2.2.length := by
  unfold tot
  rw [List.take_succ_eq_append_getElem hk]
  simp only [List.map_append, List.map_cons, List.map_nil, List.sum_append, List.sum_cons, List.sum_nil, Nat.add_zero]
theorem tot_le (L : Sls) (k : Nat) : tot (L.take k) ≤ tot L := by
  unfold tot
  conv => rhs; rw [← List.take_append_drop k L]
  rw [List.map_append, List.sum_append]
  omega
theorem cat_succ (L : Sls) (k : Nat) (hk : k < L.length) : cat (L.take (k + 1)) = cat (L.take k) ++ L[k].2.2 := by
  unfold cat
  rw [List.take_succ_eq_append_getElem hk]
  simp only [List.flatMap_append, List.flatMap_cons, List.flatMap_nil, List.append_nil]
theorem cat_length (L : Sls) : (cat L).length = tot L := by
  unfold cat tot
  rw [List.length_flatMap]
set_option maxHeartbeats 400000 in
theorem concat43 (b c : Nat) (L : Sls) (w : World) (hb : b < w.heap.size) (hc : ∀ k (h : k < L.length), w.cell? ⟨b, k, none⟩ = some (.slice L[k].1 L[k].2.2.length L[k].2.1)) (hs : ∀ x ∈ L, Sl w cI x.1 x.2.2)
    (hn : tot L * 32 ≤ 140737488355328) (hL : L.length ≤ 100) :
    Calls Try.prog 43 #[.slice (some ⟨b, 0, none⟩) L.length c] w (Out w (cat L)) := by
  have H0 := Lib.hid (And.intro hb (And.intro hc (And.intro hs hn))); clear hb hc hs hn
  go_enter Try.func43, Try.ntmps43
  go_wp2
  go_loop [3, 11] (fun s i => ∃ k : Nat, k ≤ L.length ∧ i = .int .i64 k ∧ s = .int .i64 (tot (L.take k))) (fun _ i => L.length - (intOf i).toNat)
  case atStart => exact ⟨0, Nat.zero_le _, rfl, rfl⟩
  case round =>
    obtain ⟨k, hk, rfl, rfl⟩ := hrel
    by_cases hlt : k < L.length
    · have hck := H0.out.2.1 k hlt
      have e1 := tot_succ L k hlt
      have e2 := tot_le L (k + 1)
      have e3 := H0.out.2.2.2
      have E := Lib.hid e1
      have hbd : tot (L.take k) + L[k].2.2.length ≤ 4398046511104 := by omega
      have hbd2 : tot (L.take k) ≤ 4398046511104 := by omega
      generalize tot (L.take k) = s at *
      clear e1 e2 e3
      go_wp2
      go_round
      case rel => exact ⟨k + 1, hlt, by go_num, by rw [E.out]; go_num⟩
      case measure => simp [intOf]; omega
    · have hkn : k = L.length := by omega
      subst hkn
      rw [List.take_length]
      go_wp2_with ((go_at_call 53; refine (grow53 _ _ H0.out.2.2.2).mono ?_; rintro e w1 ⟨v, rfl, hb1, ho1⟩; have H1 := Lib.hid (And.intro hb1 ho1); clear hb1 ho1))
      go_loopw [6, 27] (fun v i wr => ∃ k : Nat, k ≤ L.length ∧ i = .int .i64 k ∧ Below w.heap.size w wr ∧ Own wr w.heap.size 33 32 cI v (cat (L.take k))) (fun _ i _ => L.length - (intOf i).toNat)
      case atStart => exact ⟨0, Nat.zero_le _, rfl, H1.out.1, H1.out.2⟩
      case round =>
        obtain ⟨k, hk, rfl, hb, hown⟩ := hrel
        by_cases hlt : k < L.length
        · have hck := (hb.cell (p := ⟨b, k, none⟩) H0.out.1).trans (H0.out.2.1 k hlt)
          have hsl := (H0.out.2.2.1 _ (List.getElem_mem hlt)).keep hb
          have e1 := cat_succ L k hlt
          have e2 := tot_le L (k + 1)
          have e3 := H0.out.2.2.2
          have e4 : (cat (L.take (k + 1))).length ≤ tot L := by rw [cat_length]; exact e2
          rw [e1, List.length_append] at e4
          have H := Lib.hid (And.intro hb (And.intro hown (And.intro hsl (And.intro e4 (And.intro e3 e1))))); clear hb hown hsl e1 e2 e3 e4
          generalize hLk : L[k] = x at *
          obtain ⟨A, c', ys⟩ := x
          have HLk := Lib.hid hLk; clear hLk
          go_wp2_with ((at_builtin; refine wpList_append_sl _ rfl (.tmp 31) (.tmp 32) 24 rfl w.heap.size 33 32 32 cI under24 row33 (by decide) cI_length cI_one _ (cat (L.take k)) rfl ?hown _ _ _ ys rfl rfl ?hsl ?h1 ?h2 ?h3 ?_))
          case hown => exact H.out.2.1
          case hsl => exact H.out.2.2.1
          case h1 => have := H.out.2.2.2; omega
          case h2 => have := H.out.2.2.2; omega
          case h3 => exact H.out.1.size
          intro v' w' ho hg
          have hb' := Own.grew H.out.2.1 hg H.out.1 (Nat.le_refl _) H.out.1.size
          have H2 := Lib.hid (And.intro hb' ho); clear hb' ho hg
          go_wp2
          go_roundw
          case rel => exact ⟨k + 1, hlt, by go_num, H2.out.1, by rw [H.out.2.2.2.2.2]; exact H2.out.2⟩
          case measure => simp [intOf]; omega
        · have hkn : k = L.length := by omega
          subst hkn
          have H := Lib.hid (And.intro hb hown); clear hb hown
          go_wp2
          go_ret
          exact Out.mk H.out.1 (by have := H.out.2; rwa [List.take_length] at this)
end Go.Proofs.Ytcchpenaiomeeaa
