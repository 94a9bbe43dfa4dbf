/- The reference function Cut: it hands back a new slice that reads as the trimmed list. -/
import Derived.Test.YtcchpenaiomeeaaTrim
import Derived.Deep.RegionLaw
namespace Go.Proofs.Ytcchpenaiomeeaa
open Go.RowKit
theorem trimL_length_le (l : List Id) (most : Nat) (hm : 1 ≤ most) : (trimL l most).length ≤ l.length := by
  unfold trimL
  split
  · exact Nat.le_refl _
  · split
    · rw [List.length_drop]; omega
    · rw [List.length_append, List.length_take, List.length_drop]; omega
set_option maxRecDepth 100000 in
set_option maxHeartbeats 800000 in
theorem cut33 (A : Option Addr) (c most : Nat) (xs : List Id) (w : World) (hx : Sl w cI A xs) (hc : xs.length ≤ c) (hn : xs.length * 32 ≤ 140737488355328) (hm : 1 ≤ most) (hm2 : most ≤ 4294967296) :
    Calls Try.prog 33 #[.slice A xs.length c, .int .i64 (most : Int)] w (Out w (trimL xs most)) := by
  by_cases h1 : xs.length ≤ most
  · have e : trimL xs most = xs := by unfold trimL; rw [if_pos h1]
    rw [e]
    clear e
    go_enter Try.func33, Try.ntmps33
    have H0 := Lib.hid (And.intro hx hn); clear hx hn hc hm hm2
    go_wp2_with ((at_builtin; refine wpList_append_sl _ rfl (.tmp 9) (.tmp 10) 22 rfl w.heap.size 38 32 32 cI under22 row38 (by decide) cI_length cI_one _ [] rfl ?hown _ _ _ xs rfl rfl ?hsl ?h1 ?h2 ?h3 ?_))
    case hown => exact Own.newI w w.heap.size 38 [] (Nat.le_refl _) (by simp)
    case hsl => exact H0.out.1.keep (below_alloc _ _)
    case h1 => have := H0.out.2; simp; omega
    case h2 => have := H0.out.2; simp; omega
    case h3 => simp
    intro v' w' ho hg
    have hb := Own.grew (Own.newI w w.heap.size 38 [] (Nat.le_refl _) (by simp)) hg (below_alloc _ _) (Nat.le_refl _) (by simp)
    have H := Lib.hid (And.intro hb ho); clear hb ho hg
    go_wp2
    go_ret
    exact Out.mk H.out.1 H.out.2
  · have hd : decide (xs.length ≤ most) = false := by simp; omega
    obtain ⟨ad, rfl, _⟩ := hx (by intro e; subst e; simp at h1)
    by_cases h2 : most = 1
    · subst h2
      have hlt : xs.length - 1 < xs.length := by omega
      obtain ⟨ad', e', hok, hrd⟩ := Sl.rd hx hlt
      obtain rfl : ad = ad' := by injection e'
      have e : trimL xs 1 = [xs[xs.length - 1]] := by
        unfold trimL; rw [if_neg h1, if_pos rfl, List.drop_eq_getElem_cons hlt, List.drop_eq_nil_of_le (by omega)]
      rw [e]
      generalize xs[xs.length - 1] = x at hrd
      have hk2 : 1 ≤ xs.length := by omega
      have hk3 : xs.length ≤ 4398046511104 := by omega
      have hd1 : decide ((xs.length : Int) ≤ 1) = false := by simp; omega
      clear e hx h1 hc hn hm hm2 e'
      go_enter Try.func33, Try.ntmps33
      go_wp2
      go_ret
      exact ⟨_, _, _, rfl, rfl, Nat.le_refl _, below_alloc _ _, sl_newI _ _ _⟩
    · obtain ⟨K, hK⟩ : ∃ K, K = xs.length - (most - 1) := ⟨_, rfl⟩
      have hlt : 0 < xs.length := by omega
      obtain ⟨ad', e', hok, hrd⟩ := Sl.rd hx hlt
      obtain rfl : ad = ad' := by injection e'
      rw [Nat.zero_mul, show ad.add 0 = ad from rfl] at hok hrd
      have e : trimL xs most = [xs[0]] ++ xs.drop K := by
        unfold trimL; rw [if_neg h1, if_neg h2, hK]
        congr 1
        rw [List.take_succ_eq_append_getElem hlt]
        rfl
      have hcut := Sl.cut cI_length hx (k := K) hc
      have hck : ¬ c = K := by omega
      rw [if_neg hck] at hcut
      rw [e]
      have h4 : (1 : Int) ≤ (c : Int) := by omega
      have h5 : ((most : Int) == 1) = false := by simp; omega
      have hKl : K ≤ xs.length := by omega
      have hl2 : (xs.drop K).length = xs.length - K := List.length_drop
      have q1 : IntKind.i64.wrap ((xs.length : Int) - (most : Int)) = (xs.length : Int) - (most : Int) := IntWalk.i64_in _ (by omega)
      have q2 : IntKind.i64.wrap ((xs.length : Int) - (most : Int) + 1) = (K : Int) := (IntWalk.i64_in _ (by omega)).trans (by omega)
      have hn' : (1 + (xs.length - K)) * 32 ≤ 140737488355328 := by omega
      have hl0 : (0 : Int) < (xs.length : Int) := by omega
      have H0 := Lib.hid (And.intro hcut (And.intro hl2 hn')); clear hcut hl2 hx hK hn hn' e e'
      clear h1 h2 hc hm hm2
      go_enter Try.func33, Try.ntmps33
      go_wp2_with fail
      have hown : Own (w.drew.alloc (.cells (aIs [xs[0]]) 38)) w.heap.size 38 32 cI (.slice (some ⟨w.heap.size, 0, none⟩) 1 1) [xs[0]] := Own.newI w.drew w.heap.size 38 [xs[0]] (Nat.le_refl _) (by simp)
      have hsl : Sl (w.drew.alloc (.cells (aIs [xs[0]]) 38)) cI (some (ad.add (K * 32))) (xs.drop K) := H0.out.1.keep ((below_alloc _ _).drew)
      have H2 := Lib.hid (And.intro hown hsl); clear hown hsl
      go_region_law (refine step_append_sl _ rfl (.tmp 24) (.tmp 31) 22 rfl w.heap.size 38 32 32 cI under22 row38 (by decide) cI_length cI_one _ [xs[0]] rfl H2.out.1 _ _ _ (xs.drop K) H0.out.2.1 rfl H2.out.2 H0.out.2.2 (by have := H0.out.2.2; simp only [List.length_cons, List.length_nil]; omega) (by simp) ?_; intro v' w' ho hg)
      have hb := Own.grew H2.out.1 hg ((below_alloc w _).drew) (Nat.le_refl _) (by simp)
      have H3 := Lib.hid (And.intro hb ho); clear hb ho hg
      go_wp2
      go_ret
      exact Out.mk H3.out.1 H3.out.2
end Go.Proofs.Ytcchpenaiomeeaa
