/- BatchSalvages is true for all texts. -/
import Derived.Test.YtecalodcbkljoaaGreatDoorMRsl
import Derived.Test.YtecalodcbkljoaaGreatDoorMSlv
import Derived.Test.YtecalodcbkljoaaGreatDoorMSam
import Derived.Test.YtecalodcbkljoaaGreatDoorMPkp
namespace Go.Proofs.YtecalodcbkljoaaGreatDoor
open Go.RowKit
theorem cut_size (t : ByteArray) (m : Nat) (hm : min t.size 6000 = m) : (t.extract 0 m).size ≤ 6000 := by
  rw [ByteArray.size_extract]
  omega
set_option maxRecDepth 100000 in
set_option maxHeartbeats 6400000 in
theorem salvages_law (t : ByteArray) (w : World) (hL : Laid w) : Calls Tryz.prog 4 #[.string t] w fun e w' => e = .returned (.bool true) ∧ Below w.heap.size w w' := by
  obtain ⟨m, hm⟩ : ∃ m, min t.size 6000 = m := ⟨_, rfl⟩
  have HS6 := Lib.hid (cut_size t m hm)
  obtain ⟨S, hS⟩ : ∃ S, t.extract 0 m = S := ⟨_, rfl⟩
  rw [hS] at HS6
  have hmi : min (t.size : Int) 6000 = (m : Int) := by omega
  have hmt : (m : Int) ≤ (t.size : Int) := by omega
  have HLEN := Lib.hid (show (salvP (bl S) 0).length ≤ 1073741824 from by
    have h1 := salvP_len (bl S) _ 0 (Nat.le_refl _)
    rw [bl_length] at h1
    have := HS6.out
    omega)
  obtain ⟨l, hl⟩ : ∃ l, salvP (bl S) 0 = l := ⟨_, rfl⟩
  rw [hl] at HLEN
  have H0 := Lib.hid hL
  have HLL := Lib.hid hl
  clear hL hm hl
  go_enter Tryz.func4, Tryz.ntmps4
  go_wp2_with (first
    | (go_at_call 12; refine (known_c _ H0.out).mono ?_; rintro e w1 ⟨rfl, hb1⟩; have H1 := Lib.hid hb1; clear hb1)
    | (go_at_call 15; refine (salvage_s S _ (H0.out.keep H1.out) (by have := HS6.out; omega)).mono ?_; rintro e w2 ⟨A2, c2, rfl, -, hs2, hb2⟩; rw [HLL.out] at hs2 ⊢; have H2 := Lib.hid (And.intro (Below.step H1.out hb2) hs2); clear hb2 hs2)
    | (go_at_call 16; refine (rsalv_b S _ (by have := HS6.out; omega)).mono ?_; rintro e w3 ⟨A3, c3, rfl, -, hs3, hb3⟩; rw [HLL.out] at hs3 ⊢; have H3 := Lib.hid (show Below w.heap.size w w3 ∧ Sl w3 cX A2 l ∧ Sl w3 cX A3 l from ⟨Below.step H2.out.1 hb3, H2.out.2.keep hb3, hs3⟩); clear hb3 hs3)
    | (go_at_call 13; refine (same_b A2 A3 c2 c3 l l _ H3.out.2.1 H3.out.2.2 HLEN.out HLEN.out).mono ?_; rintro e w4 ⟨rfl, hb4⟩; rw [decide_eq_true rfl]; have H4 := Lib.hid (Below.step H3.out.1 hb4); clear hb4))
  go_ret
  exact ⟨rfl, H4.out⟩
end Go.Proofs.YtecalodcbkljoaaGreatDoor
