/- Comparing without case; Printable; Trim. -/
import Derived.Test.YtnljplnjdbjplaaDoorLow
namespace Go.Proofs.YtnljplnjdbjplaaDoor
open Go.RowKit
/-- A string in lower case. -/
def lowS (s : ByteArray) : ByteArray := ⟨((bl s).map lowB).toArray⟩
theorem lowS_size (s : ByteArray) : (lowS s).size = s.size := by
  rw [← bl_length, ← bl_length]
  simp [lowS, bl]
theorem lower15' (s : ByteArray) (w : World) (hs : s.size ≤ 4294967296) : Calls Tryd.prog 15 #[.string s] w fun e w' => e = .returned (.string (lowS s)) ∧ Below w.heap.size w w' := lower15 s w hs
set_option maxRecDepth 100000 in
set_option maxHeartbeats 800000 in
theorem equal16 (a b : ByteArray) (w : World) (ha : a.size ≤ 4294967296) (hb : b.size ≤ 4294967296) :
    Calls Tryd.prog 16 #[.string a, .string b] w fun e w' => e = .returned (.bool (bl (lowS a) == bl (lowS b))) ∧ Below w.heap.size w w' := by
  have HS := Lib.hid (And.intro ha hb)
  clear ha hb
  have T0 := Lib.hid trivial
  go_enter Tryd.func16, Tryd.ntmps16
  go_wp2_with (first
    | (go_at_call 15; have hh := T0; clear hh T0; refine (lower15' a w HS.out.1).mono ?_; rintro e w1 ⟨rfl, hb1⟩; have H1 := Lib.hid hb1; clear hb1)
    | (go_at_call 15; refine (lower15' b _ HS.out.2).mono ?_; rintro e w2 ⟨rfl, hb2⟩; have H2 := Lib.hid (Below.step H1.out hb2); clear hb2))
  go_ret
  exact ⟨ret_bool (show ((lowS a).toList == (lowS b).toList) = (bl (lowS a) == bl (lowS b)) by rw [Lib.toList_data, Lib.toList_data]), H2.out⟩
set_option maxRecDepth 100000 in
set_option maxHeartbeats 800000 in
theorem compare17 (a b : ByteArray) (w : World) (ha : a.size ≤ 4294967296) (hb : b.size ≤ 4294967296) :
    Calls Tryd.prog 17 #[.string a, .string b] w fun e w' => e = .returned (.int .i64 (Lib.compareBytes (bl (lowS a)) (bl (lowS b)))) ∧ Below w.heap.size w w' := by
  have HS := Lib.hid (And.intro ha hb)
  clear ha hb
  have T0 := Lib.hid trivial
  go_enter Tryd.func17, Tryd.ntmps17
  go_wp2_with (first
    | (go_at_call 15; have hh := T0; clear hh T0; refine (lower15' a w HS.out.1).mono ?_; rintro e w1 ⟨rfl, hb1⟩; have H1 := Lib.hid hb1; clear hb1)
    | (go_at_call 15; refine (lower15' b _ HS.out.2).mono ?_; rintro e w2 ⟨rfl, hb2⟩; have H2 := Lib.hid (Below.step H1.out hb2); clear hb2)
    | (go_at_call 49; refine (Tryd.strings_Compare _ _ _).mono ?_; rintro e w3 ⟨rfl, rfl⟩))
  go_ret
  exact ⟨rfl, H2.out⟩
theorem cell_below {w w' : World} {a : Addr} {v : Value} (h : w.cell? a = some v) (hb : Below w.heap.size w w') : w'.cell? a = some v := by
  refine (World.cell?_of_block (hb.block _ ?_)).trans h
  unfold World.cell? at h
  split at h
  · rename_i hh
    exact (Array.getElem?_eq_some_iff.1 hh).1
  · cases h
set_option maxRecDepth 100000 in
set_option maxHeartbeats 800000 in
theorem index19 (a b : ByteArray) (m : Int) (w : World) (hm : w.cell? ⟨0, 0, none⟩ = some (.int .i64 m)) (ha : a.size < 4294967281) (hb : b.size ≤ 4294967296) :
    Calls Tryd.prog 19 #[.string a, .string b] w fun e w' => e = .returned (.int .i64 (Lib.index (bl (lowS a)) (bl (lowS b)))) ∧ Below w.heap.size w w' := by
  have HS := Lib.hid (And.intro ha (And.intro hb hm))
  clear ha hb hm
  have T0 := Lib.hid trivial
  go_enter Tryd.func19, Tryd.ntmps19
  go_wp2_with (first
    | (go_at_call 15; have hh := T0; clear hh T0; refine (lower15' a w (by have := HS.out.1; omega)).mono ?_; rintro e w1 ⟨rfl, hb1⟩; have H1 := Lib.hid hb1; clear hb1)
    | (go_at_call 15; refine (lower15' b _ HS.out.2.1).mono ?_; rintro e w2 ⟨rfl, hb2⟩; have H2 := Lib.hid (Below.step H1.out hb2); clear hb2)
    | (go_at_call 50; refine (Tryd.strings_Index _ _ m _ (by rw [lowS_size]; exact HS.out.1) (cell_below HS.out.2.2 H2.out)).mono ?_; rintro e w3 ⟨rfl, rfl⟩))
  go_ret
  exact ⟨rfl, H2.out⟩
/-- The offset of the first byte that is not printable. -/
def prL (l : List UInt8) : Int := if runL prB l = l.length then -1 else (runL prB l : Int)
set_option maxRecDepth 100000 in
set_option maxHeartbeats 800000 in
theorem printable47 (s : ByteArray) (w : World) (hs : s.size ≤ 4294967296) :
    Calls Tryd.prog 47 #[.string s] w fun e w' => e = .returned (.int .i64 (prL (bl s))) ∧ w = w' := by
  have hcf : ∀ (args : Array Value) (W : World), Sem.run Tryd.prog (callFunc 61 args) W = .ok (.enter 61 args) W := enters_of Tryd.func61 (by kernel_rfl) rfl
  have hsk := skip_p 61 prB isPrint_b hcf s 0 w (Nat.zero_le _) (by omega)
  simp only [List.drop_zero, Nat.zero_add] at hsk
  obtain ⟨n, hn⟩ : ∃ n, runL prB (bl s) = n := ⟨_, rfl⟩
  rw [hn] at hsk
  have hpl : prL (bl s) = if n = s.size then -1 else (n : Int) := by unfold prL; rw [hn, bl_length]
  have H := Lib.hid (And.intro hsk hpl)
  clear hsk hcf hpl hn
  by_cases h : n = s.size
  · subst h
    have HP := H.out.2
    rw [if_pos rfl] at HP
    rw [HP]
    clear HP
    go_enter Tryd.func47, Tryd.ntmps47
    go_wp2_with (go_at_call 52; refine H.out.1.mono ?_; rintro e w1 ⟨rfl, rfl⟩)
    go_ret
    exact ⟨rfl, rfl⟩
  · have HP := H.out.2
    rw [if_neg h] at HP
    rw [HP]
    clear HP
    go_enter Tryd.func47, Tryd.ntmps47
    go_wp2_with (go_at_call 52; refine H.out.1.mono ?_; rintro e w1 ⟨rfl, rfl⟩)
    all_goals
      go_ret
      exact ⟨rfl, rfl⟩
/-- What Trim returns: the string between the blanks at both ends. -/
def TrimS (s : ByteArray) (e : Ending) : Prop := ∃ t, runL blankB (bl s) ≤ t ∧ t ≤ s.size ∧ (∀ j (h : j < s.size), t ≤ j → blankB s[j] = true) ∧ (∀ j (h : j < s.size), j + 1 = t → runL blankB (bl s) < t → blankB s[j] = false) ∧ e = .returned (.string (s.extract (runL blankB (bl s)) t))
set_option maxRecDepth 100000 in
set_option maxHeartbeats 800000 in
theorem trim26 (s : ByteArray) (w : World) (hs : s.size ≤ 4294967296) : Calls Tryd.prog 26 #[.string s] w fun e w' => TrimS s e ∧ w = w' := by
  have hcf : ∀ (args : Array Value) (W : World), Sem.run Tryd.prog (callFunc 45 args) W = .ok (.enter 45 args) W := enters_of Tryd.func45 (by kernel_rfl) rfl
  have hsk := skip_p 45 blankB isBlank_b hcf s 0 w (Nat.zero_le _) (by omega)
  simp only [List.drop_zero, Nat.zero_add] at hsk
  have hle := runL_le blankB (bl s)
  rw [bl_length] at hle
  unfold TrimS
  obtain ⟨n, hn⟩ : ∃ n, runL blankB (bl s) = n := ⟨_, rfl⟩
  rw [hn] at hsk hle ⊢
  have H := Lib.hid hsk
  clear hsk hcf hn
  go_enter Tryd.func26, Tryd.ntmps26
  go_wp2_with (go_at_call 52; refine H.out.mono ?_; rintro e w1 ⟨rfl, rfl⟩)
  go_loop [4] (fun i => ∃ t : Nat, n ≤ t ∧ t ≤ s.size ∧ i = .int .i64 t ∧ ∀ j (h : j < s.size), t ≤ j → blankB s[j] = true) (fun i => (intOf i).toNat)
  case atStart => exact ⟨s.size, hle, Nat.le_refl _, rfl, fun j h1 h2 => by omega⟩
  case round =>
    obtain ⟨t, ht1, ht2, rfl, hall⟩ := hrel
    have HA := Lib.hid hall
    clear hall
    by_cases hlt : n < t
    · obtain ⟨q, rfl⟩ : ∃ q, t = q + 1 := ⟨t - 1, by omega⟩
      have hq : q < s.size := by omega
      cases hp : blankB s[q] with
      | true =>
        go_wp2_with (go_at_call 45; refine (isBlank_b s[q] _).mono ?_; rintro e w' ⟨rfl, rfl⟩; rw [hp])
        go_round
        case rel =>
          refine ⟨q, by omega, by omega, rfl, fun j h1 h2 => ?_⟩
          by_cases hjq : j = q
          · subst hjq; exact hp
          · exact HA.out j h1 (by omega)
        case measure => simp [intOf]
      | false =>
        go_wp2_with (go_at_call 45; refine (isBlank_b s[q] _).mono ?_; rintro e w' ⟨rfl, rfl⟩; rw [hp])
        go_ret
        refine ⟨⟨q + 1, by omega, ht2, HA.out, fun j h1 h2 _ => ?_, rfl⟩, rfl⟩
        obtain rfl : j = q := by omega
        exact hp
    · have hte : t = n := by omega
      subst hte
      go_wp2
      go_ret
      have hex : s.extract t t = ByteArray.empty := by simp
      exact ⟨⟨t, Nat.le_refl _, ht2, HA.out, fun j h1 h2 h3 => by omega, by rw [hex]; rfl⟩, rfl⟩
end Go.Proofs.YtnljplnjdbjplaaDoor
