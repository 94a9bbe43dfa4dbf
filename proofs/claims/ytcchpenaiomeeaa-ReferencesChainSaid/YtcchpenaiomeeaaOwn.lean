import Derived.Test.YtcchpenaiomeeaaLaws
namespace Go.Proofs.Ytcchpenaiomeeaa
open Go.RowKit
set_option maxHeartbeats 400000 in
theorem own_any (A : Option Addr) (c : Nat) (xs : List Id) (w : World) (hx : Sl w cI A xs) (hn : xs.length * 32 ≤ 140737488355328) :
    Calls Try.prog 14 #[.slice A xs.length c] w fun e w' => ∃ v, e = .returned v ∧ Below w.heap.size w w' ∧ Own w' w.heap.size 33 32 cI v xs := by
  go_enter Try.func14, Try.ntmps14
  go_wp2
  go_loopw [3, 4] (fun v i wr => ∃ k : Nat, k ≤ xs.length ∧ i = .int .i64 k ∧ Below w.heap.size w wr ∧ Own wr w.heap.size 33 32 cI v (xs.take k)) (fun _ i _ => xs.length - (intOf i).toNat)
  case atStart => exact ⟨0, Nat.zero_le _, rfl, Below.refl _ _, Own.nil _ _ _ _ _⟩
  case round =>
    obtain ⟨k, hk, rfl, hb, hown⟩ := hrel
    by_cases hlt : k < xs.length
    · obtain ⟨ad, rfl, hok, hrd⟩ := Sl.rd (hx.keep hb) hlt
      clear hx
      have H := Lib.hid (And.intro hb hown); clear hb hown
      go_wp2_with ((at_builtin; refine wpList_append_sl _ rfl (.tmp 11) (.tmp 16) 24 rfl w.heap.size 33 32 32 cI under24 row33 (by decide) cI_length cI_one _ (xs.take k) rfl ?hown _ _ _ [xs[k]] rfl rfl ?hsl ?h1 ?h2 ?h3 ?_))
      case hown => exact H.out.2.keep (below_alloc _ _)
      case hsl => exact sl_newI _ _ _
      case h1 => simp; omega
      case h2 => simp; omega
      case h3 => have := H.out.1.size; simp; omega
      intro v' w' ho hg
      have hb' := Own.grew (H.out.2.keep (below_alloc _ _)) hg (H.out.1.trans ((below_alloc _ _).mono H.out.1.size)) (Nat.le_refl _) (by have := H.out.1.size; simp; omega)
      have H2 := Lib.hid (And.intro hb' ho); clear hb' ho hg
      go_wp2
      go_roundw
      case rel => exact ⟨k + 1, hlt, by go_num, H2.out.1, H2.out.2⟩
      case measure => simp [intOf]; omega
    · have hkn : k = xs.length := by omega
      subst hkn
      have H := Lib.hid (And.intro hb hown); clear hb hown hx
      go_wp2
      go_ret
      exact ⟨_, rfl, H.out.1, by have := H.out.2; rwa [List.take_length] at this⟩
end Go.Proofs.Ytcchpenaiomeeaa
