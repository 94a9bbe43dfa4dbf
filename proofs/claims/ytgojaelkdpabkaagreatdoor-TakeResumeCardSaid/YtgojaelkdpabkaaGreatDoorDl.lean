/- slices.Delete from the front. -/
import Derived.Test.YtgojaelkdpabkaaGreatDoorFrm
import Derived.Laws.OwnMore
namespace Go.Proofs.YtgojaelkdpabkaaGreatDoor
open Go.RowKit
/-- append(s[:0], s[j:]...), s the call's own: in place. -/
theorem parts_front {w : World} {base g n c : Nat} {l : List Pt} (h : Own w base 86 35 cA (.slice (some ⟨g, 0, none⟩) n c) l) (j : Nat) (hj : j < l.length) (hc : l.length ≤ c) (ty : TypeId) :
    ∃ w', ((Builtin.append_ #[78, 78] ty #[.slice (some ⟨g, 0, none⟩) 0 c, .slice (some ⟨g, j * 35, none⟩) (l.length - j) (c - j)]).run Tryz.prog w = .ok (.slice (some ⟨g, 0, none⟩) (l.length - j) c) w') ∧
      Own w' base 86 35 cA (.slice (some ⟨g, 0, none⟩) (l.length - j) c) (l.drop j) ∧ One g w w' := by
  obtain ⟨i, z, h1, h2, h3⟩ := info_of rowPA
  have hcut := Own.cut h cA_length rfl 0 (Nat.zero_le _)
  have hsl := Sl.cut cA_length h.slOf (c := c) (k := j) hc
  rw [if_neg (by omega)] at hsl
  rw [show Option.map (fun x : Addr => x.add (j * 35)) (some ⟨g, 0, none⟩) = some ⟨g, j * 35, none⟩ by simp [add_off]] at hsl
  obtain ⟨ad, e, hat⟩ := hsl (by intro e; have := congrArg List.length e; rw [List.length_drop] at this; simp at this; omega)
  cases e
  have hlen : (l.drop j).length = l.length - j := by rw [List.length_drop]
  obtain ⟨w', hr, ho, hg⟩ := run_append_fits (P := Tryz.prog) w base 78 ty 86 i 35 underPAs h1 h3 g 0 c ([].flatMap cA) hcut ⟨g, j * 35, none⟩ (l.length - j) (c - j) ((l.drop j).flatMap cA) (by rw [flatMap_length cA 35 cA_length, hlen]) hat.2
    (fun u hu => by
      obtain ⟨y, _, hy⟩ := List.mem_flatMap.1 hu
      exact cA_one y u hy) (by omega)
  rw [Nat.zero_add] at hr ho
  refine ⟨w', hr, ⟨by rw [flatMap_length cA 35 cA_length, hlen], ?_⟩, ⟨hg.os, hg.tape, hg.output, hg.size, fun k hk hk2 => hg.block k hk (by simp [hk2])⟩⟩
  rw [hlen]
  exact ho.2
set_option maxRecDepth 100000 in
set_option maxHeartbeats 3200000 in
theorem delete68 (base g n c j : Nat) (l : List Pt) (w : World) (hO : Own w base 86 35 cA (.slice (some ⟨g, 0, none⟩) n c) l) (hn : l.length = n) (hn2 : n ≤ 1000000) (hj : 1 ≤ j) (hj2 : j < n) (hc : n ≤ c) :
    Calls Tryz.prog 68 #[.slice (some ⟨g, 0, none⟩) n c, .int .i64 0, .int .i64 (j : Int)] w fun e w' => e = .returned (.slice (some ⟨g, 0, none⟩) (n - j) c) ∧ Own w' base 86 35 cA (.slice (some ⟨g, 0, none⟩) (n - j) c) (l.drop j) ∧ One g w w' := by
  have HO := Lib.hid hO
  have HN := Lib.hid hn
  have q5 : ¬ (j : Int) = 0 := by omega
  have q6 : ((0 : Int) == (j : Int)) = false := beq_eq_false_iff_ne.2 (by omega)
  have q7 : (j : Int) ≤ (n : Int) := by omega
  have q8 : (n : Int) ≤ (c : Int) := by omega
  clear hO hn
  go_enter Tryz.func68, Tryz.ntmps68
  go_wp2
  refine AnyO.wp_any_tail 6 (by kernel_rfl) (by kernel_rfl) (by kernel_rfl) (by kernel_rfl) (by kernel_rfl) (by kernel_rfl) (pstP [isV (.slice (some ⟨g, 0, none⟩) n c), isV (.int .i64 0), isV (.slice (some ⟨g, 0, none⟩) 0 c), isV (.slice (some ⟨g, 0, none⟩) n c), isV (.int .i64 (j : Int)), isV (.slice (some ⟨g, j * 35, none⟩) (n - j) (c - j))]) (MonoL.cons (Mono.v _) (MonoL.cons (Mono.v _) (MonoL.cons (Mono.v _) (MonoL.cons (Mono.v _) (MonoL.cons (Mono.v _) (MonoL.cons (Mono.v _) MonoL.nil)))))) ?_ ?_
  · intro i hi
    have hi2 : i = 0 ∨ i = 1 ∨ i = 2 ∨ i = 3 ∨ i = 4 ∨ i = 5 := by omega
    clear hi
    rcases hi2 with rfl | rfl | rfl | rfl | rfl | rfl
    all_goals
      refine AnyO.Step.mk rfl _ rfl ?_; intro vs u hE hp ac hb K hK
      try have s0 : ac.tmps[0]?.getD undef = .slice (some ⟨g, 0, none⟩) n c := by rw [hb]; kernel_rfl
      try have s1 : ac.tmps[1]?.getD undef = .int .i64 0 := by rw [hb]; kernel_rfl
      try have s20 := AnyO.slot 20 hb (by kernel_rfl) (hp 0 (by decide +kernel))
      try have s21 := AnyO.slot 21 hb (by kernel_rfl) (hp 1 (by decide +kernel))
      try have s2 : ac.tmps[2]?.getD undef = .int .i64 (j : Int) := by rw [hb]; kernel_rfl
      try have s23 := AnyO.slot 23 hb (by kernel_rfl) (hp 3 (by decide +kernel))
      try have s24 := AnyO.slot 24 hb (by kernel_rfl) (hp 4 (by decide +kernel))
      rw [if_pos (AnyO.wanted_none rfl)]; clear hb hp
      have q9 : ¬ c = j := by omega
      go_simp
      exact hK _ _ (Below.refl _ _) rfl
  · intro vs u hE hp
    have e0 : _ = _ := hp 0 (by decide)
    have e1 : _ = _ := hp 1 (by decide)
    have e2 : _ = _ := hp 2 (by decide)
    have e3 : _ = _ := hp 3 (by decide)
    have e4 : _ = _ := hp 4 (by decide)
    have e5 : _ = _ := hp 5 (by decide)
    clear hp
    have HU := Lib.hid hE
    clear hE
    rw [puts_range [some 20, some 21, some 22, some 23, some 24, some 25] (by kernel_rfl)]
    simp only [putL, Nat.reduceAdd, List.drop_succ_cons, List.drop_zero, e0, e1, e2, e3, e4, e5]
    clear e0 e1 e2 e3 e4 e5
    go_simp
    obtain ⟨w2, hap, ho2, h12⟩ := parts_front (HO.out.keep HU.out) j (by rw [HN.out]; exact hj2) (by rw [HN.out]; exact hc) 78
    rw [HN.out] at hap ho2
    rcases ho2.rowOf with ⟨he, _⟩ | ⟨g2, c2, cs2, he, _, hr2, _, _, hl2, _⟩
    · cases he
    have he2 := Value.slice.inj he
    obtain rfl : g2 = g := by have := he2.1; simp at this; exact this.symm
    obtain rfl : c2 = c := he2.2.2.symm
    obtain ⟨ds, hdl, hcl⟩ := clear_parts (o := (n - j) * 35) (n := n - (n - j)) (c := c2 - (n - j)) hr2 (by omega)
    have hO6 := Own.behind ho2 cA_length rfl ((n - j) * 35) (by rw [List.length_drop, HN.out]; exact Nat.le_refl _) ds (by omega)
    have hap2 : (apA #[78, 78] 78 #[.slice (some ⟨g2, 0, none⟩) 0 c2, .slice (some ⟨g2, j * 35, none⟩) (n - j) (c2 - j)]).run Tryz.prog u = .ok (.slice (some ⟨g2, 0, none⟩) (n - j) c2) w2 := hap
    have HX := Lib.hid (And.intro hO6 (And.intro h12 (One.stD (g := g2) (w := w2) ((n - j) * 35) ds)))
    clear hO6 ho2 h12 hr2 he he2 hap
    have q1 : ((n - j : Nat) : Int) ≤ (n : Int) := by omega
    have q2 : ((n - j : Nat) : Int) ≤ (c2 : Int) := by omega
    have q4 : (n : Int) ≤ (c2 : Int) := by omega
    go_wp2
    go_ret
    exact ⟨rfl, HX.out.1, (One.of_below HU.out).trans (HX.out.2.1.trans HX.out.2.2)⟩
end Go.Proofs.YtgojaelkdpabkaaGreatDoor
