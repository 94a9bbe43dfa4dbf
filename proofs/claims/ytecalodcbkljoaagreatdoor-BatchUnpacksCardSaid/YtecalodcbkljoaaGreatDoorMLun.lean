/- BatchUnpacks is true for all texts. -/
import Derived.Test.YtecalodcbkljoaaGreatDoorMRun
import Derived.Test.YtecalodcbkljoaaGreatDoorMIdx
import Derived.Test.YtecalodcbkljoaaGreatDoorMSam
import Derived.Test.YtecalodcbkljoaaGreatDoorMPkp
namespace Go.Proofs.YtecalodcbkljoaaGreatDoor
open Go.RowKit
theorem cut_size (t : ByteArray) (m : Nat) (hm : min t.size 6000 = m) : (t.extract 0 m).size ≤ 6000 := by
  rw [ByteArray.size_extract]
  omega
theorem chk_good {l : List It} (h1 : ∀ x ∈ l, x.text.size ≤ 65536) (h2 : l.length ≤ 1000) (h3 : (batL l).length ≤ 4194304) : (chkB l).2 = 0 := by
  unfold chkB
  rw [if_neg (by omega), if_neg (by
    rw [List.any_eq_true]
    rintro ⟨x, hx, h⟩
    have := h1 x hx
    have h3 : 65536 < x.text.size := by simpa using h
    omega), if_neg (by rw [batL_len] at h3; omega)]
theorem pk_back {S : ByteArray} {l : List It} (h : unpackP (bl S) = .ok l) : (chkB l).2 = 0 ∧ pkS l = S ∧ l.length ≤ 1000 ∧ ∀ x ∈ l, x.text.size ≤ 65536 := by
  obtain ⟨h1, h2, h3, h4⟩ := unpackP_back h
  have hc := chk_good h4 h2 (by rw [← h1]; exact h3)
  refine ⟨hc, ?_, h2, h4⟩
  unfold pkS
  rw [if_pos hc]
  exact bl_inj (by rw [bl_batS, ← h1])
set_option maxRecDepth 100000 in
set_option maxHeartbeats 6400000 in
theorem unpacks_law (t : ByteArray) (w : World) (hL : Laid w) : Calls Tryz.prog 3 #[.string t] w fun e w' => e = .returned (.bool true) ∧ Below w.heap.size w w' := by
  obtain ⟨m, hm⟩ : ∃ m, min t.size 6000 = m := ⟨_, rfl⟩
  have HS6 := Lib.hid (cut_size t m hm)
  obtain ⟨S, hS⟩ : ∃ S, t.extract 0 m = S := ⟨_, rfl⟩
  rw [hS] at HS6
  have hmi : min (t.size : Int) 6000 = (m : Int) := by omega
  have hmt : (m : Int) ≤ (t.size : Int) := by omega
  have HZ := Lib.hid (show S.size ≤ 1073741824 by have := HS6.out; omega)
  have H0 := Lib.hid hL
  clear hL hm
  cases hu : unpackP (bl S) with
  | error er =>
    obtain ⟨e, k⟩ := er
    have he := unp_e0 hu
    have hei : (e != 0) = true := by simpa using he
    have HU := Lib.hid hu
    clear hu he
    go_enter Tryz.func3, Tryz.ntmps3
    go_wp2_with (first
      | (go_at_call 9; refine (unpack_s S _ H0.out HZ.out).mono ?_; rintro en w1 hu1; rw [HU.out] at hu1; obtain ⟨A1, c1, rfl, hb1⟩ := hu1.fail; have H1 := Lib.hid hb1; clear hb1 hu1)
      | (go_at_call 10; refine (runpack_b S _ HZ.out).mono ?_; rintro en w2 hu2; rw [HU.out] at hu2; obtain ⟨A2, c2, rfl, hb2⟩ := hu2.fail; have H2 := Lib.hid (Below.step H1.out hb2); clear hb2 hu2)
      | (go_at_call 11; refine (index_s S _ (H0.out.keep H2.out) HZ.out).mono ?_; rintro en w3 hu3; rw [HU.out] at hu3; obtain ⟨A3, c3, B3, d3, rfl, -, -, hb3⟩ := hu3; rw [show unpL (.error (e, k)) = [] from rfl, show unpE (.error (e, k)) = e from rfl]; have H3 := Lib.hid (Below.step H2.out hb3); clear hb3)
      | (go_at_call 12; refine (known_c _ (H0.out.keep H3.out)).mono ?_; rintro en w4 ⟨rfl, hb4⟩; have H4 := Lib.hid (Below.step H3.out hb4); clear hb4)
      | (go_at_call 13; refine (same_b A1 A2 c1 c2 [] [] _ (Sl.nil _ _ _) (Sl.nil _ _ _) (by simp) (by simp)).mono ?_; rintro en w5 ⟨rfl, hb5⟩; rw [decide_eq_true rfl]; have H5 := Lib.hid (Below.step H4.out hb5); clear hb5))
    go_loop [12] (fun i => i = .int .i64 0) (fun _ => 0)
    case atStart => rfl
    case round =>
      obtain rfl := hrel
      go_wp2
      go_ret
      exact ⟨rfl, H5.out⟩
  | ok l =>
    obtain ⟨p1, p2, p3, p4⟩ := pk_back hu
    obtain ⟨n, hn⟩ : ∃ n, l.length = n := ⟨_, rfl⟩
    have HU := Lib.hid hu
    have HP := Lib.hid (And.intro p1 (And.intro p2 (And.intro p3 (And.intro p4 hn))))
    clear hu p1 p2 p3 p4 hn
    go_enter Tryz.func3, Tryz.ntmps3
    go_wp2_with (first
      | (go_at_call 9; refine (unpack_s S _ H0.out HZ.out).mono ?_; rintro en w1 hu1; rw [HU.out] at hu1; obtain ⟨A1, c1, rfl, -, hs1, hb1⟩ := hu1.good; rw [HP.out.2.2.2.2]; have H1 := Lib.hid (And.intro hb1 hs1); clear hb1 hu1 hs1)
      | (go_at_call 10; refine (runpack_b S _ HZ.out).mono ?_; rintro en w2 hu2; rw [HU.out] at hu2; obtain ⟨A2, c2, rfl, -, hs2, hb2⟩ := hu2.good; rw [HP.out.2.2.2.2]; have H2 := Lib.hid (show Below w.heap.size w w2 ∧ Sl w2 cX A1 l ∧ Sl w2 cX A2 l from ⟨Below.step H1.out.1 hb2, H1.out.2.keep hb2, hs2⟩); clear hb2 hu2 hs2)
      | (go_at_call 11; refine (index_s S _ (H0.out.keep H2.out.1) HZ.out).mono ?_; rintro en w3 hu3; rw [HU.out] at hu3; obtain ⟨A3, c3, B3, d3, rfl, hi3, hz3, hb3⟩ := hu3; rw [show unpL (.ok l) = l from rfl] at hi3 hz3 ⊢; rw [show unpE (.ok l) = 0 from rfl, HP.out.2.2.2.2]; have H3 := Lib.hid (show Below w.heap.size w w3 ∧ Sl w3 cX A1 l ∧ Sl w3 cX A2 l ∧ Sl w3 cI A3 (idsL l) ∧ Sl w3 cZ B3 (szL l) from ⟨Below.step H2.out.1 hb3, H2.out.2.1.keep hb3, H2.out.2.2.keep hb3, hi3, hz3⟩); clear hb3 hi3 hz3)
      | (go_at_call 12; refine (known_c _ (H0.out.keep H3.out.1)).mono ?_; rintro en w4 ⟨rfl, hb4⟩; have H4 := Lib.hid hb4; clear hb4)
      | (go_at_call 13; have hsm := same_b A1 A2 c1 c2 l l _ (H3.out.2.1.keep H4.out) (H3.out.2.2.1.keep H4.out) (by have := HP.out.2.2.1; omega) (by have := HP.out.2.2.1; omega); rw [HP.out.2.2.2.2] at hsm; refine hsm.mono ?_; rintro en w5 ⟨rfl, hb5⟩; rw [decide_eq_true rfl]; have H5 := Lib.hid (Below.step H4.out hb5); clear hb5 hsm))
    clear H1 H2 H4
    go_loopw [12] (fun i wr => ∃ k : Nat, k ≤ n ∧ i = .int .i64 (k : Int) ∧ Below w3.heap.size w3 wr) (fun i _ => n - (intOf i).toNat)
    case atStart => exact ⟨0, Nat.zero_le _, rfl, H5.out⟩
    case round =>
      obtain ⟨k, hk, rfl, hb⟩ := hrel
      have HB := Lib.hid hb
      have hn1 : n ≤ 1000 := by have := HP.out.2.2.1; have := HP.out.2.2.2.2; omega
      clear hb
      by_cases hlt : k < n
      · have hki : (k : Int) < (n : Int) := by omega
        have hk1 : (k : Int) < 1000 := by omega
        have hkl : k < l.length := by rw [HP.out.2.2.2.2]; exact hlt
        obtain ⟨x, hx⟩ : ∃ x, l[k] = x := ⟨_, rfl⟩
        obtain ⟨ad, rfl, hat⟩ := Sl.at_ cX_length (H3.out.2.2.1.keep HB.out) hkl
        obtain ⟨bd, rfl, hbt⟩ := Sl.at_ cI_length (H3.out.2.2.2.1.keep HB.out) (k := k) (by rw [idsL, List.length_map]; exact hkl)
        obtain ⟨zd, rfl, hzt⟩ := Sl.at_ cZ_length (H3.out.2.2.2.2.keep HB.out) (k := k) (by rw [szL, List.length_map]; exact hkl)
        rw [hx] at hat
        rw [show (idsL l)[k]'(by rw [idsL, List.length_map]; exact hkl) = x.id by simp [idsL, hx]] at hbt
        rw [show (szL l)[k]'(by rw [szL, List.length_map]; exact hkl) = (x.text.size : Int) by simp [szL, hx]] at hzt
        have q1 : ∀ j, okA (wr.drewN j) (ad.add (k * 33)) 32 = true := fun j => (at_idX (hat.keep (below_drewN wr j))).1
        have q2 : ∀ j, rdA (wr.drewN j) (ad.add (k * 33)) 32 = vI x.id := fun j => (at_idX (hat.keep (below_drewN wr j))).2.1
        have q3 : ∀ j, (wr.drewN j).cell? ⟨(ad.add (k * 33)).block, (ad.add (k * 33)).off + 32, none⟩ = some (.string x.text) := fun j => (at_idX (hat.keep (below_drewN wr j))).2.2
        have q4 : ∀ j, okA (wr.drewN j) (bd.add (k * 32)) 32 = true := fun j => by have := (hbt.keep (below_drewN wr j)).ok; rwa [cI_length] at this
        have q5 : ∀ j, rdA (wr.drewN j) (bd.add (k * 32)) 32 = vI x.id := fun j => by have := (hbt.keep (below_drewN wr j)).rd; rwa [cI_length] at this
        have q6 : ∀ j, (wr.drewN j).cell? (zd.add k) = some (.int .i64 (x.text.size : Int)) := fun j => by
          have := (hzt.keep (below_drewN wr j)).2 0 _ rfl
          rwa [add_of_add, Nat.mul_one, Nat.add_zero] at this
        clear hat hbt hzt hx
        go_wp2_with fail
        go_quiet (fail)
        have H2 := Lib.hid (Below.step HB.out (below_drewN wr nq))
        go_wp2
        go_roundw
        case rel => exact ⟨k + 1, hlt, by go_num, H2.out⟩
        case measure => simp [intOf]; omega
      · obtain rfl : k = n := by omega
        have HW := Lib.hid (Below.step H3.out.1 HB.out)
        have hpk := pack_p A1 c1 l wr (H0.out.keep HW.out) (H3.out.2.1.keep HB.out) (by have := HP.out.2.2.1; omega) (fun x hx => by have := HP.out.2.2.2.1 x hx; omega)
        rw [HP.out.1, HP.out.2.1, HP.out.2.2.2.2] at hpk
        have HPK := Lib.hid hpk
        clear hpk
        go_wp2_with (go_at_call 14; refine HPK.out.mono ?_; rintro en w6 ⟨rfl, hb6⟩; have H6 := Lib.hid (Below.step HW.out hb6); clear hb6)
        go_ret
        exact ⟨rfl, H6.out⟩
end Go.Proofs.YtecalodcbkljoaaGreatDoor
