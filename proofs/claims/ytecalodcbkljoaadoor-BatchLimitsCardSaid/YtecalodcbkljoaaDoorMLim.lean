/- BatchLimits is true for all arguments. -/
import Derived.Test.YtecalodcbkljoaaDoorMPkp
namespace Go.Proofs.YtecalodcbkljoaaDoor
open Go.RowKit
set_option maxRecDepth 100000 in
set_option maxHeartbeats 6400000 in
theorem limits_law (a b : UInt8) (w : World) (hL : Laid w) : Calls Tryd.prog 6 #[vB a, vB b] w fun e w' => e = .returned (.bool true) ∧ Below w.heap.size w w' := by
  obtain ⟨n, hn⟩ : ∃ n : Nat, 65539 - a.toNat % 8 = n := ⟨_, rfl⟩
  obtain ⟨k, hk⟩ : ∃ k : Nat, 1002 - b.toNat % 5 = k := ⟨_, rfl⟩
  have en : (65539 : Int) - (a.toNat : Int) % 8 = (n : Int) := by omega
  have ek : (1002 : Int) - (b.toNat : Int) % 5 = (k : Int) := by omega
  have hn1 : n ≤ 65539 := by omega
  have hk1 : k ≤ 1002 := by omega
  clear hn hk
  obtain ⟨w1, hmk, hb1, hs1⟩ := make_b w n (by omega)
  have hcv := conv_bs (n := n) (c := n) hs1 (by simp) (by simp)
  obtain ⟨T, hT⟩ : ∃ T : ByteArray, (⟨(List.replicate n (0 : UInt8)).toArray⟩ : ByteArray) = T := ⟨_, rfl⟩
  have ea : wrap64 (a.toNat : Int) = (a.toNat : Int) := by have := a.toNat_lt; unfold wrap64; omega
  have eb : wrap64 (b.toNat : Int) = (b.toNat : Int) := by have := b.toNat_lt; unfold wrap64; omega
  have en2 : wrap64 (n : Int) = (n : Int) := by unfold wrap64; omega
  have ek2 : wrap64 (k : Int) = (k : Int) := by unfold wrap64; omega
  have hz := chk_zero n (by omega)
  have hm := chk_many k (by omega)
  rw [hT] at hcv hz
  have HX := Lib.hid (show ∀ x ∈ [(⟨zI, T⟩ : It)], x.text.size ≤ 1073741824 from by
    intro x hx
    obtain rfl := List.mem_singleton.1 hx
    rw [← hT]
    show (List.replicate n (0 : UInt8)).toArray.size ≤ 1073741824
    simp
    omega)
  obtain ⟨W2, hW2⟩ : ∃ W2, w1.alloc (.cells (aX ⟨zI, T⟩) 39) = W2 := ⟨_, rfl⟩
  have H2 := Lib.hid (show Laid W2 ∧ Below w.heap.size w W2 ∧ Sl W2 cX (some ⟨w1.heap.size, 0, none⟩) [⟨zI, T⟩] from by
    subst hW2
    have hb := Below.step hb1 (below_alloc w1 (.cells (aX ⟨zI, T⟩) 39))
    exact ⟨hL.keep hb, hb, sl_newX w1 _ _⟩)
  obtain ⟨S1, hS1⟩ : ∃ S, pkS [(⟨zI, T⟩ : It)] = S := ⟨_, rfl⟩
  obtain ⟨S2, hS2⟩ : ∃ S, pkS (List.replicate k zX) = S := ⟨_, rfl⟩
  have HSZ := Lib.hid (show S2.size ≤ 1073741824 from by rw [← hS2]; have := pkS_le (List.replicate k zX); omega)
  have HK := Lib.hid (And.intro (show k ≤ 1073741824 by omega) (show ∀ x ∈ List.replicate k zX, x.text.size ≤ 1073741824 from by
    intro x hx
    obtain ⟨-, rfl⟩ := List.mem_replicate.1 hx
    decide))
  have HP1 := Lib.hid (pack_p _ 1 _ W2 H2.out.1 H2.out.2.2 (by simp) HX.out)
  have HZ1 := Lib.hid (fun (w' : World) (hb : Below W2.heap.size W2 w') => size_p _ 1 _ w' (H2.out.1.keep hb) (H2.out.2.2.keep hb) (by simp) HX.out)
  rw [hS1] at HP1 HZ1
  have hu : (k ≤ 1000 → unpackP (bl S2) = .ok (List.replicate k zX)) ∧ (¬ k ≤ 1000 → unpackP (bl S2) = .error (23, 0) ∧ S2 = ⟨#[]⟩) := by
    rw [← hS2]
    refine ⟨fun h => unp_pk0 (by rw [hm, if_pos h]), fun h => ⟨unp_pk1 (by rw [hm, if_neg h]; decide), ?_⟩⟩
    unfold pkS
    rw [if_neg (by rw [hm, if_neg h]; decide)]
  have hlen : (List.replicate k zX).length = k := List.length_replicate
  clear hL hb1 hs1 hT hn1 hk1
  by_cases hn5 : n ≤ 65536 <;> by_cases hk5 : k ≤ 1000
  all_goals
    first
      | (rw [if_pos hn5] at hz; have hn6 : (n : Int) ≤ 65536 := by omega)
      | (rw [if_neg hn5] at hz; have hn6 : ¬ (n : Int) ≤ 65536 := by omega)
    first
      | (rw [if_pos hk5] at hm
         have hk6 : ¬ (1000 : Int) < (k : Int) := by omega
         have HU := Lib.hid (hu.1 hk5))
      | (rw [if_neg hk5] at hm
         have hk6 : (1000 : Int) < (k : Int) := by omega
         have HU := Lib.hid (hu.2 hk5).1
         obtain rfl := (hu.2 hk5).2)
    rw [hz] at HP1
    have HM := Lib.hid hm
    have HS2 := Lib.hid hS2
    have HLN := Lib.hid hlen
    clear hn5 hk5 hz hm hS2 hS1 hu hlen
    go_enter Tryd.func6, Tryd.ntmps6
    go_wp2_with (first
      | (have hh := HP1; clear hh; go_at_call 13; refine HP1.out.mono ?_; rintro e w3 ⟨rfl, hb3⟩; have H3 := Lib.hid hb3; have H3k := Lib.hid (Below.step H2.out.2.1 hb3); clear hb3 HP1)
      | (go_at_call 9; refine (known_c _ (H2.out.1.keep H3.out)).mono ?_; rintro e w4 ⟨rfl, hb4⟩; have H4 := Lib.hid (Below.step H3.out hb4); have H4k := Lib.hid (Below.step H3k.out hb4); clear hb4 H3 H3k)
      | (have hh := HZ1; clear hh; go_at_call 14; refine (HZ1.out _ H4.out).mono ?_; rintro e w5 ⟨rfl, hb5⟩; obtain ⟨w6, hmk6, hb6, hs6⟩ := make_x w5 k HK.out.1; have H6 := Lib.hid (show Laid w6 ∧ Below w.heap.size w w6 ∧ Sl w6 cX (some ⟨w5.heap.size, 0, none⟩) (List.replicate k zX) from ⟨H2.out.1.keep (Below.step (Below.step H4.out hb5) hb6), Below.step (Below.step H4k.out hb5) hb6, hs6⟩); clear hb5 hb6 hs6 H4 HZ1)
      | (go_at_call 13; have hp := pack_p (some ⟨w5.heap.size, 0, none⟩) k (List.replicate k zX) w6 H6.out.1 H6.out.2.2 (by rw [HLN.out]; exact HK.out.1) HK.out.2; rw [HLN.out, HM.out, HS2.out] at hp; refine hp.mono ?_; rintro e w7 ⟨rfl, hb7⟩; have H7 := Lib.hid (show Laid w7 ∧ Below w.heap.size w w7 ∧ Sl w7 cX (some ⟨w5.heap.size, 0, none⟩) (List.replicate k zX) from ⟨H6.out.1.keep hb7, Below.step H6.out.2.1 hb7, H6.out.2.2.keep hb7⟩); clear hb7 hp)
      | (have hh := H7; clear hh; go_at_call 10; refine (unpack_s _ _ H7.out.1 HSZ.out).mono ?_; rintro e w8 hu8; rw [HU.out] at hu8; first
          | (have hg := hu8.good
             rw [HLN.out] at hg
             obtain ⟨A8, c8, rfl, -, -, hb8⟩ := hg
             clear hu8
             have H8 := Lib.hid (Below.step H7.out.2.1 hb8)
             clear hb8)
          | (obtain ⟨A8, c8, rfl, hb8⟩ := hu8.fail
             clear hu8
             have H8 := Lib.hid (Below.step H7.out.2.1 hb8)
             have H8k := Lib.hid (show Laid w8 ∧ Sl w8 cX (some ⟨w5.heap.size, 0, none⟩) (List.replicate k zX) from ⟨H7.out.1.keep hb8, H7.out.2.2.keep hb8⟩)
             clear hb8))
      | (have hh := H8; clear hh; go_at_call 14; have hp := size_p (some ⟨w5.heap.size, 0, none⟩) k (List.replicate k zX) w8 H8k.out.1 H8k.out.2 (by rw [HLN.out]; exact HK.out.1) HK.out.2; rw [HLN.out, HS2.out] at hp; refine hp.mono ?_; rintro e w9 ⟨rfl, hb9⟩; have H9 := Lib.hid (Below.step H8.out hb9); clear hb9 hp))
    first
      | (go_ret; exact ⟨rfl, H8.out⟩)
      | (go_ret; exact ⟨rfl, H9.out⟩)
end Go.Proofs.YtecalodcbkljoaaDoor
