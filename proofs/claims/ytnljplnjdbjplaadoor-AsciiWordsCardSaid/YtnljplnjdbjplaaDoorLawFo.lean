/- AsciiFold: Lower, EqualFold and CompareFold agree with the reference. -/
import Derived.Test.YtnljplnjdbjplaaDoorKnown1
import Derived.Test.YtnljplnjdbjplaaDoorRefIdx
namespace Go.Proofs.YtnljplnjdbjplaaDoor
open Go.RowKit
/-- What the laws ask of the world: the cell of MaxLen, the table of powers. -/
def Laid (m : Int) (w : World) : Prop := w.cell? ⟨0, 0, none⟩ = some (.int .i64 m) ∧ Lib.TabIs Tryd.prog w "internal/strconv.uint64pow10" .u64 Lib.pow10Tab
theorem Laid.keep {m : Int} {w w' : World} (h : Laid m w) (hb : Below w.heap.size w w') : Laid m w' := ⟨cell_below h.1 hb, tab_below h.2 hb⟩
theorem known_l (m : Int) (w : World) (h : Laid m w) : Calls Tryd.prog 14 #[] w fun e w' => e = .returned (.bool true) ∧ Below w.heap.size w w' := known14 m w h.1 h.2
theorem lowB_lowB (c : UInt8) : lowB (lowB c) = lowB c := eq_of_beq (byte_all (p := fun c => lowB (lowB c) == lowB c) (by decide +kernel) c)
theorem lowS_lowS (s : ByteArray) : lowS (lowS s) = lowS s := by
  unfold lowS
  congr 2
  simp only [bl]
  rw [List.map_map]
  apply List.map_congr_left
  intro c _
  exact lowB_lowB c
theorem equal_self (s : ByteArray) (w : World) (hs : s.size ≤ 4294967296) :
    Calls Tryd.prog 16 #[.string s, .string (lowS s)] w fun e w' => e = .returned (.bool true) ∧ Below w.heap.size w w' := by
  have := equal16 s (lowS s) w hs (by rw [lowS_size]; exact hs)
  rw [lowS_lowS, beq_self_eq_true] at this
  exact this
set_option maxRecDepth 100000 in
set_option maxHeartbeats 3200000 in
theorem law3 (a b : ByteArray) (m : Int) (w : World) (hm : Laid m w) :
    Calls Tryd.prog 3 #[.string a, .string b] w fun e w' => e = .returned (.bool true) ∧ Below w.heap.size w w' := by
  have H0 := Lib.hid (And.intro hm (And.intro (cutS_size a) (cutS_size b)))
  clear hm
  have T1 := Lib.hid trivial
  have T2 := Lib.hid trivial
  have T3 := Lib.hid trivial
  have HE : (bl (lowS (cutS a)) == bl (lowS (cutS b))) = ((lowS (cutS a)).toList == (lowS (cutS b)).toList) := by rw [Lib.toList_data, Lib.toList_data]
  obtain ⟨A, hA⟩ : ∃ A, cutS a = A := ⟨_, rfl⟩
  obtain ⟨B, hB⟩ : ∃ B, cutS b = B := ⟨_, rfl⟩
  have HC1 := fun w => cut12 a w
  have HC2 := fun w => cut12 b w
  rw [hA] at HE H0 HC1
  rw [hB] at HE H0 HC2
  obtain ⟨t, ht⟩ : ∃ t, ((lowS A).toList == (lowS B).toList) = t := ⟨_, rfl⟩
  rw [ht] at HE
  have HC := Lib.hid (And.intro HC1 (And.intro HC2 HE))
  clear HC1 HC2 HE hA hB
  go_enter Tryd.func3, Tryd.ntmps3
  go_wp2_with (first
    | (go_at_call 12; have hh := T1; clear hh T1; refine (HC.out.1 _).mono ?_; rintro e w1 ⟨rfl, rfl⟩)
    | (go_at_call 12; refine (HC.out.2.1 _).mono ?_; rintro e w1 ⟨rfl, rfl⟩)
    | (go_at_call 13; have hh := T2; clear hh T2; refine (refLower13' A _ (by have := H0.out.2.1; omega)).mono ?_; rintro e w1 ⟨rfl, hb⟩; have H1 := Lib.hid hb; clear hb)
    | (go_at_call 13; refine (refLower13' B _ (by have := H0.out.2.2; omega)).mono ?_; rintro e w2 ⟨rfl, hb⟩; have H2 := Lib.hid (Below.step H1.out hb); clear hb)
    | (go_at_call 14; refine (known_l m _ (H0.out.1.keep H2.out)).mono ?_; rintro e w3 ⟨rfl, hb⟩; have H3 := Lib.hid (Below.step H2.out hb); clear hb)
    | (go_at_call 15; refine (lower15' A _ (by have := H0.out.2.1; omega)).mono ?_; rintro e w4 ⟨rfl, hb⟩; have H4 := Lib.hid (Below.step H3.out hb); clear hb)
    | (go_at_call 16; have hh := T3; clear hh T3; refine (equal16 A B _ (by have := H0.out.2.1; omega) (by have := H0.out.2.2; omega)).mono ?_; rintro e w5 ⟨rfl, hb⟩; rw [HC.out.2.2]; have H5 := Lib.hid (Below.step H4.out hb); clear hb)
    | (go_at_call 16; refine (equal_self A _ (by have := H0.out.2.1; omega)).mono ?_; rintro e w6 ⟨rfl, hb⟩; have H6 := Lib.hid (Below.step H5.out hb); clear hb)
    | (go_at_call 17; refine (compare17 A B _ (by have := H0.out.2.1; omega) (by have := H0.out.2.2; omega)).mono ?_; rintro e w7 ⟨rfl, hb⟩; have H7 := Lib.hid (Below.step H6.out hb); clear hb)
    | (go_at_call 18; refine (refCompare18 (lowS A) (lowS B) _ (by rw [lowS_size]; have := H0.out.2.1; omega) (by rw [lowS_size]; have := H0.out.2.2; omega)).mono ?_; rintro e w8 ⟨rfl, hb⟩; have H8 := Lib.hid (Below.step H7.out hb); clear hb))
  trace_state
  go_ret
  exact ⟨rfl, H8.out⟩
end Go.Proofs.YtnljplnjdbjplaaDoor
