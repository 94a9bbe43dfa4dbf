/- The function trim of package references: it hands back a new slice that reads as the trimmed list. -/
import Derived.Test.YtcchpenaiomeeaaSlices
import Derived.StillTailTactics
namespace Go.Proofs.Ytcchpenaiomeeaa
open Go.RowKit
/-- A list trimmed to a positive number of elements. -/
def trimL (l : List Id) (most : Nat) : List Id := if l.length ≤ most then l else if most = 1 then l.drop (l.length - 1) else l.take 1 ++ l.drop (l.length - (most - 1))
theorem clone34' (A : Option Addr) (c n : Nat) (xs : List Id) (w : World) (hl : xs.length = n) (hx : Sl w cI A xs) (hn : xs.length * 32 ≤ 140737488355328) :
    Calls Try.prog 34 #[.slice A n c] w (Out w xs) := by
  subst hl
  exact clone34 A c xs w hx hn
theorem Below.step {w w1 w2 : World} (h : Below w.heap.size w w1) (h2 : Below w1.heap.size w1 w2) : Below w.heap.size w w2 := h.trans (h2.mono h.size)
theorem Out.from {w w1 w2 : World} {xs : List Id} {e : Ending} (h : Below w.heap.size w w1) (ho : Out w1 xs e w2) : Out w xs e w2 := by
  obtain ⟨A, n, c, h1, h2, h3, h4, h5⟩ := ho
  exact ⟨A, n, c, h1, h2, h3, Below.step h h4, h5⟩
/-- Concat of two slices, laid as the translation lays them. -/
theorem concat2 (A B : Option Addr) (n m c d : Nat) (xs ys : List Id) (w : World) (h1 : xs.length = n) (h2 : ys.length = m) (hx : Sl w cI A xs) (hy : Sl w cI B ys) (hn : (n + m) * 32 ≤ 140737488355328) :
    Calls Try.prog 43 #[.slice (some ⟨w.heap.size, 0, none⟩) 2 2] (w.alloc (.cells #[.slice A n c, .slice B m d] 24)) (Out w (xs ++ ys)) := by
  subst h1 h2
  have h := concat43 w.heap.size 2 [(A, c, xs), (B, d, ys)] (w.alloc (.cells #[.slice A xs.length c, .slice B ys.length d] 24)) (by simp)
    (by
      intro k hk
      rw [World.cell?_alloc_at _ _ _ _ rfl]
      match k, hk with
      | 0, _ => rfl
      | 1, _ => rfl)
    (by
      intro x hx'
      simp only [List.mem_cons, List.not_mem_nil, or_false] at hx'
      rcases hx' with rfl | rfl
      · exact hx.keep (below_alloc _ _)
      · exact hy.keep (below_alloc _ _))
    (by simpa [tot] using hn) (by simp)
  refine Calls.mono h fun e w' ho => ?_
  have e1 : cat [(A, c, xs), (B, d, ys)] = xs ++ ys := by simp [cat]
  rw [e1] at ho
  exact Out.from (below_alloc _ _) ho
set_option maxRecDepth 100000 in
set_option maxHeartbeats 400000 in
theorem trim32 (A : Option Addr) (c most : Nat) (xs : List Id) (w : World) (hx : Sl w cI A xs) (hc : xs.length ≤ c) (hn : xs.length * 32 ≤ 140737488355328) (hm : 1 ≤ most) (hm2 : most ≤ 4294967296) :
    Calls Try.prog 32 #[.slice A xs.length c, .int .i64 (most : Int)] w (Out w (trimL xs most)) := by
  by_cases h1 : xs.length ≤ most
  · have e : trimL xs most = xs := by unfold trimL; rw [if_pos h1]
    rw [e]
    clear e
    go_enter Try.func32, Try.ntmps32
    have H0 := Lib.hid (And.intro hx hn); clear hx hn hc hm hm2
    go_wp2_with ((go_at_call 34; refine (clone34 _ _ _ _ H0.out.1 H0.out.2).mono ?_; rintro e w1 ⟨A1, n1, c1, rfl, hl1, hc1, hb1, ho1⟩; have H1 := Lib.hid (And.intro hl1 (And.intro hc1 (And.intro hb1 ho1))); clear hl1 hc1 hb1 ho1))
    go_ret
    exact ⟨_, _, _, rfl, H1.out⟩
  · have hd : decide (xs.length ≤ most) = false := by simp; omega
    obtain ⟨ad, rfl, _⟩ := hx (by intro e; subst e; simp at h1)
    by_cases h2 : most = 1
    · subst h2
      have e : trimL xs 1 = xs.drop (xs.length - 1) := by unfold trimL; rw [if_neg h1, if_pos rfl]
      have hl : (xs.drop (xs.length - 1)).length = 1 := by rw [List.length_drop]; omega
      have hcut := Sl.cut cI_length hx (k := xs.length - 1) hc
      have hck : ¬ c = xs.length - 1 := by omega
      rw [if_neg hck] at hcut
      rw [e]
      clear e
      have hl' : (xs.drop (xs.length - 1)).length = xs.length - (xs.length - 1) := List.length_drop
      have H0 := Lib.hid (And.intro hcut (And.intro hl (And.intro hl' (And.intro hc hn)))); clear hcut hl hx hl'
      have h3 : (0 : Int) ≤ (xs.length : Int) - 1 := by omega
      go_enter Try.func32, Try.ntmps32
      go_wp2_with ((go_at_call 34; refine (clone34' _ _ _ _ _ H0.out.2.2.1 H0.out.1 (by have := H0.out.2.1; omega)).mono ?_; rintro e w1 ⟨A1, n1, c1, rfl, hl1, hc1, hb1, ho1⟩; have H1 := Lib.hid (And.intro hl1 (And.intro hc1 (And.intro hb1 ho1))); clear hl1 hc1 hb1 ho1))
      go_ret
      exact ⟨_, _, _, rfl, H1.out⟩
    · obtain ⟨K, hK⟩ : ∃ K, K = xs.length - (most - 1) := ⟨_, rfl⟩
      have e : trimL xs most = xs.take 1 ++ xs.drop K := by
        unfold trimL; rw [if_neg h1, if_neg h2, hK]
      have hcut := Sl.cut cI_length hx (k := K) hc
      have hck : ¬ c = K := by omega
      rw [if_neg hck] at hcut
      have ht := hx.take 1
      rw [e]
      clear e
      have h4 : (1 : Int) ≤ (c : Int) := by omega
      have h5 : ((most : Int) == 1) = false := by simp; omega
      have hKl : K ≤ xs.length := by omega
      have hl1 : (xs.take 1).length = 1 := by rw [List.length_take]; omega
      have hl2 : (xs.drop K).length = xs.length - K := List.length_drop
      have q1 : IntKind.i64.wrap ((most : Int) - 1) = (most : Int) - 1 := IntWalk.i64_in _ (by omega)
      have q2 : IntKind.i64.wrap ((xs.length : Int) - ((most : Int) - 1)) = (K : Int) := (IntWalk.i64_in _ (by omega)).trans (by omega)
      have hn' : (1 + (xs.length - K)) * 32 ≤ 140737488355328 := by omega
      have H0 := Lib.hid (And.intro hcut (And.intro ht (And.intro hl1 (And.intro hl2 hn')))); clear hcut hl1 hl2 hx ht hK hn hn'
      clear h1 h2 hc hm hm2
      go_enter Try.func32, Try.ntmps32
      go_wp2_with fail
      go_still_tail 9, (by kernel_rfl)
      clear q1 q2
      change wpList _ _ _ _ _ w.drew
      generalize hw2 : w.drew = w2
      have HW := Lib.hid hw2; clear hw2
      have hx2 : Sl w2 cI (some ad) (xs.take 1) := by rw [← HW.out]; exact H0.out.2.1
      have hy2 : Sl w2 cI (some (ad.add (K * 32))) (xs.drop K) := by rw [← HW.out]; exact H0.out.1
      have H2 := Lib.hid (And.intro hx2 hy2); clear hx2 hy2
      go_wp2_with ((go_at_call 43; refine (concat2 _ _ _ _ _ _ _ _ _ H0.out.2.2.1 H0.out.2.2.2.1 H2.out.1 H2.out.2 H0.out.2.2.2.2).mono ?_; rintro e w1 ⟨A1, n1, c1, rfl, hl1, hc1, hb1, ho1⟩; have H1 := Lib.hid (And.intro hl1 (And.intro hc1 (And.intro hb1 ho1))); clear hl1 hc1 hb1 ho1))
      go_ret
      exact Out.from (by rw [← HW.out]; exact below_drew w) ⟨_, _, _, rfl, H1.out⟩
end Go.Proofs.Ytcchpenaiomeeaa
