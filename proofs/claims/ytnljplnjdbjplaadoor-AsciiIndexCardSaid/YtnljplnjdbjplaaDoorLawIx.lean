/- AsciiIndex: IndexFold returns the first occurrence. -/
import Derived.Test.YtnljplnjdbjplaaDoorLawFo
namespace Go.Proofs.YtnljplnjdbjplaaDoor
open Go.RowKit
theorem index_occ : ∀ (s sub : List UInt8) (i : Nat), Lib.index s sub = (i : Int) → sub <+: s.drop i
  | [], sub, i, h => by
    unfold Lib.index at h
    split at h
    · rename_i h1
      have : sub = [] := by simpa using h1
      subst this
      exact List.nil_prefix
    · omega
  | b :: l, sub, i, h => by
    unfold Lib.index at h
    split at h
    · rename_i h1
      obtain rfl : i = 0 := by omega
      exact List.isPrefixOf_iff_prefix.1 h1
    · split at h
      · omega
      · rename_i h2
        have hg := Lib.index_ge l sub
        have h3 : Lib.index l sub ≠ -1 := by simpa using h2
        obtain ⟨j, rfl⟩ : ∃ j, i = j + 1 := ⟨i - 1, by omega⟩
        rw [List.drop_succ_cons]
        exact index_occ l sub j (by omega)
theorem index_low (A B : ByteArray) (i : Nat) (h : Lib.index (bl (lowS A)) (bl (lowS B)) = (i : Int)) : i + B.size ≤ A.size ∧ bl (lowS (A.extract i (i + B.size))) = bl (lowS B) := by
  have hp := index_occ _ _ _ h
  have hA : bl (lowS A) = (bl A).map lowB := by simp [lowS, bl]
  have hB : (bl (lowS B)).length = B.size := by rw [bl_length, lowS_size]
  have hl := hp.length_le
  rw [List.length_drop, bl_length, bl_length, lowS_size, lowS_size] at hl
  have hi := Lib.index_le (bl (lowS A)) (bl (lowS B))
  rw [h, bl_length, lowS_size] at hi
  refine ⟨by omega, ?_⟩
  have e1 : bl (lowS (A.extract i (i + B.size))) = (bl (A.extract i (i + B.size))).map lowB := by simp [lowS, bl]
  have e2 : bl (A.extract i (i + B.size)) = ((bl A).drop i).take B.size := by
    unfold bl
    rw [Lib.extract_data]
    congr 1
    omega
  rw [e1, e2, List.map_take, List.map_drop, ← hA]
  obtain ⟨t, ht⟩ := hp
  rw [← ht, ← hB, List.take_left]
set_option maxRecDepth 100000 in
set_option maxHeartbeats 3200000 in
theorem law5 (a b : ByteArray) (m : Int) (w : World) (hm : Laid m w) :
    Calls Tryd.prog 5 #[.string a, .string b] w fun e w' => e = .returned (.bool true) ∧ Below w.heap.size w w' := by
  have H0 := Lib.hid (And.intro hm (And.intro (cutS_size a) (cutS_size b)))
  clear hm
  have T1 := Lib.hid trivial
  obtain ⟨A, hA⟩ : ∃ A, cutS a = A := ⟨_, rfl⟩
  obtain ⟨B, hB⟩ : ∃ B, cutS b = B := ⟨_, rfl⟩
  have HC1 := fun w => cut12 a w
  have HC2 := fun w => cut12 b w
  rw [hA] at H0 HC1
  rw [hB] at H0 HC2
  have h3 := H0.out.2.1
  have h4 := H0.out.2.2
  clear hA hB
  obtain ⟨r, hr⟩ : ∃ r, Lib.index (bl (lowS A)) (bl (lowS B)) = r := ⟨_, rfl⟩
  have HC := Lib.hid (And.intro HC1 (And.intro HC2 hr))
  clear HC1 HC2
  have hg := Lib.index_ge (bl (lowS A)) (bl (lowS B))
  rw [hr] at hg
  by_cases hneg : r = -1
  · subst hneg
    clear hr hg
    go_enter Tryd.func5, Tryd.ntmps5
    go_wp2_with (first
      | (go_at_call 12; have hh := T1; clear hh T1; refine (HC.out.1 _).mono ?_; rintro e w1 ⟨rfl, rfl⟩)
      | (go_at_call 12; refine (HC.out.2.1 _).mono ?_; rintro e w1 ⟨rfl, rfl⟩)
      | (go_at_call 19; refine (index19 A B m _ H0.out.1.1 (by have := H0.out.2.1; omega) (by have := H0.out.2.2; omega)).mono ?_; rintro e w1 ⟨rfl, hb⟩; rw [HC.out.2.2]; have H1 := Lib.hid hb; clear hb)
      | (go_at_call 14; refine (known_l m _ (H0.out.1.keep H1.out)).mono ?_; rintro e w3 ⟨rfl, hb⟩; have H3 := Lib.hid (Below.step H1.out hb); clear hb)
      | (go_at_call 20; refine (refIndex20 A B _ (by have := H0.out.2.1; omega) (by have := H0.out.2.2; omega)).mono ?_; rintro e w4 ⟨rfl, hb⟩; rw [HC.out.2.2]; have H4 := Lib.hid (Below.step H3.out hb); clear hb))
    go_ret
    exact ⟨rfl, H4.out⟩
  · obtain ⟨i, rfl⟩ : ∃ i : Nat, r = (i : Int) := ⟨r.toNat, by omega⟩
    obtain ⟨h5, h6⟩ := index_low A B i hr
    have h7 : ¬ ((i : Int) + (B.size : Int) > (A.size : Int)) := by omega
    have h8 : (i : Int) ≤ (i : Int) + (B.size : Int) := by omega
    have h9 : (i : Int) + (B.size : Int) ≤ (A.size : Int) := by omega
    have HQ : ∀ w, Calls Tryd.prog 16 #[.string (A.extract i (i + B.size)), .string B] w fun e w' => e = .returned (.bool true) ∧ Below w.heap.size w w' := fun w => by
      have := equal16 (A.extract i (i + B.size)) B w (by rw [ByteArray.size_extract]; omega) (by omega)
      rwa [h6, beq_self_eq_true] at this
    have HH := Lib.hid HQ
    clear hr hg HQ h6 hneg
    go_enter Tryd.func5, Tryd.ntmps5
    go_wp2_with (first
      | (go_at_call 12; have hh := T1; clear hh T1; refine (HC.out.1 _).mono ?_; rintro e w1 ⟨rfl, rfl⟩)
      | (go_at_call 12; refine (HC.out.2.1 _).mono ?_; rintro e w1 ⟨rfl, rfl⟩)
      | (go_at_call 19; refine (index19 A B m _ H0.out.1.1 (by have := H0.out.2.1; omega) (by have := H0.out.2.2; omega)).mono ?_; rintro e w1 ⟨rfl, hb⟩; rw [HC.out.2.2]; have H1 := Lib.hid hb; clear hb)
      | (go_at_call 16; refine (HH.out _).mono ?_; rintro e w2 ⟨rfl, hb⟩; have H2 := Lib.hid (Below.step H1.out hb); clear hb)
      | (go_at_call 14; refine (known_l m _ (H0.out.1.keep H2.out)).mono ?_; rintro e w3 ⟨rfl, hb⟩; have H3 := Lib.hid (Below.step H2.out hb); clear hb)
      | (go_at_call 20; refine (refIndex20 A B _ (by have := H0.out.2.1; omega) (by have := H0.out.2.2; omega)).mono ?_; rintro e w4 ⟨rfl, hb⟩; rw [HC.out.2.2]; have H4 := Lib.hid (Below.step H3.out hb); clear hb))
    go_ret
    exact ⟨rfl, H4.out⟩
end Go.Proofs.YtnljplnjdbjplaaDoor
