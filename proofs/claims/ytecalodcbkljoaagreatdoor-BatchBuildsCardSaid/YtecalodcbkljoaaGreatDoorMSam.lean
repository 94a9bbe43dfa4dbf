/- Items compared by the law: same. -/
import Derived.Test.YtecalodcbkljoaaGreatDoorMPkp
namespace Go.Proofs.YtecalodcbkljoaaGreatDoor
open Go.RowKit
theorem at_idX {w : World} {a : Addr} {x : It} (h : At w a (cX x)) : okA w a 32 = true ∧ rdA w a 32 = vI x.id ∧ w.cell? ⟨a.block, a.off + 32, none⟩ = some (.string x.text) := by
  have hi : At w a (cI x.id) := ⟨h.1, fun j u hu => h.2 j u (by
    have hj := (List.getElem?_eq_some_iff.1 hu).1
    unfold cX
    rw [List.getElem?_append_left hj]
    exact hu)⟩
  have h1 := hi.ok
  have h2 := hi.rd
  rw [cI_length] at h1 h2
  have h3 := h.2 32 _ (cX_at (aX_32 x))
  rw [show a.add 32 = ⟨a.block, a.off + 32, none⟩ from by simp [Addr.add]] at h3
  exact ⟨h1, h2, h3⟩
theorem at_X {w : World} {a : Addr} {x : It} (h : At w a (cX x)) : okA w a 33 = true ∧ rdA w a 33 = vX x := by
  have h1 := h.ok
  have h2 := h.rd
  rw [cX_length] at h1 h2
  exact ⟨h1, h2⟩
set_option maxRecDepth 100000 in
set_option maxHeartbeats 3200000 in
theorem same_b (A B : Option Addr) (c d : Nat) (l m : List It) (w : World) (hA : Sl w cX A l) (hB : Sl w cX B m) (hl : l.length ≤ 1073741824) (_hm : m.length ≤ 1073741824) :
    Calls Tryz.prog 13 #[.slice A l.length c, .slice B m.length d] w fun e w' => e = .returned (.bool (decide (l = m))) ∧ Below w.heap.size w w' := by
  by_cases hlen : l.length = m.length
  case neg =>
    have h1 : ((l.length : Int) != (m.length : Int)) = true := by simp; omega
    have HD := Lib.hid (show decide (l = m) = false from by simp; exact fun h => hlen (by rw [h]))
    clear hA hB hl hlen
    go_enter Tryz.func13, Tryz.ntmps13
    go_wp2
    go_ret
    exact ⟨by rw [HD.out]; rfl, Below.refl _ _⟩
  obtain ⟨n, hn⟩ : ∃ n, l.length = n := ⟨_, rfl⟩
  have hmn : m.length = n := by omega
  rw [hn, hmn]
  have HX := Lib.hid (show Sl w cX A l ∧ Sl w cX B m ∧ l.length = n ∧ m.length = n from ⟨hA, hB, hn, hmn⟩)
  rw [hn] at hl
  clear hA hB hlen hn hmn
  go_enter Tryz.func13, Tryz.ntmps13
  go_wp2
  go_loopw [5] (fun i wr => ∃ k : Nat, k ≤ n ∧ i = .int .i64 (k : Int) ∧ l.take k = m.take k ∧ Below w.heap.size w wr) (fun i _ => n - (intOf i).toNat)
  case atStart => exact ⟨0, Nat.zero_le _, rfl, rfl, Below.refl _ _⟩
  case round =>
    obtain ⟨k, hk, rfl, he, hb⟩ := hrel
    have HE := Lib.hid (And.intro he hb)
    clear he hb
    by_cases hlt : k < n
    · have hki : (k : Int) < (n : Int) := by omega
      obtain ⟨ad, rfl, hat⟩ := Sl.at_ cX_length (HX.out.1.keep HE.out.2) (k := k) (by rw [HX.out.2.2.1]; exact hlt)
      obtain ⟨bd, rfl, hbt⟩ := Sl.at_ cX_length (HX.out.2.1.keep HE.out.2) (k := k) (by rw [HX.out.2.2.2]; exact hlt)
      obtain ⟨x, hx⟩ : ∃ x, l[k]'(by rw [HX.out.2.2.1]; exact hlt) = x := ⟨_, rfl⟩
      obtain ⟨y, hy⟩ : ∃ y, m[k]'(by rw [HX.out.2.2.2]; exact hlt) = y := ⟨_, rfl⟩
      rw [hx] at hat
      rw [hy] at hbt
      have q1 : ∀ j, okA (wr.drewN j) (ad.add (k * 33)) 32 = true := fun j => (at_idX (hat.keep (below_drewN wr j))).1
      have q2 : ∀ j, rdA (wr.drewN j) (ad.add (k * 33)) 32 = vI x.id := fun j => (at_idX (hat.keep (below_drewN wr j))).2.1
      have q3 : ∀ j, (wr.drewN j).cell? ⟨(ad.add (k * 33)).block, (ad.add (k * 33)).off + 32, none⟩ = some (.string x.text) := fun j => (at_idX (hat.keep (below_drewN wr j))).2.2
      have q4 : ∀ j, okA (wr.drewN j) (bd.add (k * 33)) 33 = true := fun j => (at_X (hbt.keep (below_drewN wr j))).1
      have q5 : ∀ j, rdA (wr.drewN j) (bd.add (k * 33)) 33 = vX y := fun j => (at_X (hbt.keep (below_drewN wr j))).2
      have HXY := Lib.hid (And.intro hx hy)
      clear hat hbt hx hy
      by_cases hxy : x = y
      · have hq : decide ((⟨x.id, x.text⟩ : It) = y) = true := decide_eq_true hxy
        have HN := Lib.hid (show l.take (k + 1) = m.take (k + 1) from by
          rw [List.take_succ_eq_append_getElem (by rw [HX.out.2.2.1]; exact hlt), List.take_succ_eq_append_getElem (by rw [HX.out.2.2.2]; exact hlt), HE.out.1, HXY.out.1, HXY.out.2, hxy])
        clear hxy
        go_wp2_with fail
        go_quiet (fail)
        have H2 := Lib.hid (Below.step HE.out.2 (below_drewN wr nq))
        go_wp2
        go_roundw
        case rel => exact ⟨k + 1, hlt, by go_num, HN.out, H2.out⟩
        case measure => simp [intOf]; omega
      · have hq : decide ((⟨x.id, x.text⟩ : It) = y) = false := decide_eq_false hxy
        have HN := Lib.hid (show decide (l = m) = false from decide_eq_false fun e => hxy (by
          subst e
          exact HXY.out.1.symm.trans HXY.out.2))
        clear hxy
        go_wp2_with fail
        go_quiet (fail)
        have H2 := Lib.hid (Below.step HE.out.2 (below_drewN wr nq))
        go_wp2
        go_ret
        exact ⟨by rw [HN.out]; rfl, H2.out⟩
    · obtain rfl : k = n := by omega
      have HN := Lib.hid (show decide (l = m) = true from decide_eq_true (by
        have h := HE.out.1
        rwa [List.take_of_length_le (by rw [HX.out.2.2.1]; omega), List.take_of_length_le (by rw [HX.out.2.2.2]; omega)] at h))
      go_wp2
      go_ret
      exact ⟨by rw [HN.out]; rfl, HE.out.2⟩
end Go.Proofs.YtecalodcbkljoaaGreatDoor
