/- The reference's Lower; cut. -/
import Derived.Test.YtnljplnjdbjplaaDoorNum
namespace Go.Proofs.YtnljplnjdbjplaaDoor
open Go.RowKit
set_option maxHeartbeats 800000 in
theorem refLower13 (s : ByteArray) (w : World) (hs : s.size ≤ 4294967296) :
    Calls Tryd.prog 13 #[.string s] w fun e w' => e = .returned (.string ⟨((bl s).map lowB).toArray⟩) ∧ Below w.heap.size w w' := by
  obtain ⟨g, cap, W1, hg, hcv, hb, hat, hfz⟩ := conv_sb s w
  have H := Lib.hid (And.intro hb (And.intro hat (And.intro hfz hg)))
  clear hb hat hfz hg
  go_enter Tryd.func13, Tryd.ntmps13
  go_wp2
  go_loopw [4] (fun i wr => ∃ k : Nat, k ≤ s.size ∧ i = .int .i64 k ∧ At wr ⟨g, 0, none⟩ ((lk (bl s) k).map cB) ∧ (∀ j, j < s.size → wr.frozen? ⟨g, j, none⟩ = false) ∧ Below w.heap.size w wr) (fun i _ => s.size - (intOf i).toNat)
  case atStart => exact ⟨0, Nat.zero_le _, rfl, by simpa [lk] using H.out.2.1, H.out.2.2.1, H.out.1⟩
  case round =>
    obtain ⟨k, hk, rfl, hat, hfz, hb⟩ := hrel
    clear hcv
    by_cases hlt : k < s.size
    · have hl : k < (bl s).length := by rw [bl_length]; exact hlt
      obtain ⟨c, hc⟩ : ∃ c, (bl s)[k] = c := ⟨_, rfl⟩
      have hcell : wr.cell? ⟨g, k, none⟩ = some (vB c) := by
        rw [← add0]
        refine hat.2 k _ ?_
        rw [List.getElem?_map, lk_get _ _ hl, hc]
        rfl
      have hfk := hfz k hlt
      have HR := Lib.hid (And.intro hat (And.intro hfz (And.intro hb hc)))
      clear hat hfz hb hc
      cases hu : upB c with
      | true =>
        have hu1 : (c.toNat : Int) ≤ 90 := by unfold upB at hu; simp at hu; omega
        go_wp2_with (go_at_call 39; refine (refUpper_b _ _).mono ?_; rintro e w' ⟨rfl, rfl⟩; rw [hu])
        have hv : Value.int .u8 ((c.toNat : Int) + 32) = cB (lowB (bl s)[k]) := by
          rw [HR.out.2.2.2]
          unfold lowB cB
          rw [if_pos hu]
          have : (c + 32).toNat = c.toNat + 32 := by rw [UInt8.toNat_add]; simp; omega
          rw [this]
          rfl
        have hat2 := At.setCell HR.out.1 (k := k) (by rw [List.length_map, lk_length]; exact hl) (.int .u8 ((c.toNat : Int) + 32))
        rw [show ((lk (bl s) k).map cB).set k (.int .u8 ((c.toNat : Int) + 32)) = (lk (bl s) (k + 1)).map cB by rw [hv, ← List.map_set, lk_succ _ _ hl]] at hat2
        go_roundw
        case rel => exact ⟨k + 1, hlt, by go_num, hat2, fun j hj => by rw [World.frozen?_setCell]; exact HR.out.2.1 j hj, HR.out.2.2.1.setCell (p := ⟨g, k, none⟩) (by have := H.out.2.2.2; simp; omega) _⟩
        case measure => simp [intOf]; omega
      | false =>
        go_wp2_with (go_at_call 39; refine (refUpper_b _ _).mono ?_; rintro e w' ⟨rfl, rfl⟩; rw [hu])
        go_roundw
        case rel => exact ⟨k + 1, hlt, by go_num, by rw [lk_same _ _ hl (by rw [HR.out.2.2.2]; unfold lowB; rw [if_neg (by simp [hu])])]; exact HR.out.1, HR.out.2.1, HR.out.2.2.1⟩
        case measure => simp [intOf]; omega
    · have hkn : k = s.size := by omega
      subst hkn
      have hcv2 := conv_bs (n := s.size) (c := cap) (Sl.of_at hat) (by rw [lk_length, bl_length]) (by simp)
      have he : lk (bl s) s.size = (bl s).map lowB := by rw [← bl_length]; exact lk_end _
      rw [he] at hcv2
      have HR := Lib.hid hb
      clear hat hfz hb he
      go_wp2
      go_ret
      exact ⟨rfl, HR.out⟩
/-- A string cut to 300 bytes. -/
def cutS (s : ByteArray) : ByteArray := s.extract 0 (min s.size 300)
theorem cutS_size (s : ByteArray) : (cutS s).size ≤ 300 := by
  unfold cutS
  rw [ByteArray.size_extract]
  omega
set_option maxHeartbeats 400000 in
theorem cut12 (s : ByteArray) (w : World) : Calls Tryd.prog 12 #[.string s] w fun e w' => e = .returned (.string (cutS s)) ∧ w = w' := by
  have hc : cutS s = s.extract 0 (min (s.size : Int) 300).toNat := by
    unfold cutS
    rw [show (min (s.size : Int) 300).toNat = min s.size 300 by omega]
  rw [hc]
  clear hc
  go_enter Tryd.func12, Tryd.ntmps12
  go_wp2
  go_ret
  exact ⟨rfl, rfl⟩
end Go.Proofs.YtnljplnjdbjplaaDoor
