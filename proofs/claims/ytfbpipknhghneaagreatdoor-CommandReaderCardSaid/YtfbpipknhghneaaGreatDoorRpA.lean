/- The reference's texts of identities and numbers. The verbs' words. -/
import Derived.Test.YtfbpipknhghneaaGreatDoorMsA
import Derived.Test.YtfbpipknhghneaaGreatDoorEnA
import Derived.Test.YtfbpipknhghneaaGreatDoorPlA
import Derived.Test.YtfbpipknhghneaaGreatDoorDcA
import Derived.Test.YtfbpipknhghneaaGreatDoorOnA
namespace Go.Proofs.YtfbpipknhghneaaGreatDoor
section
open Go.RowKit
/-- A digit as a string. -/
def dS (p : Nat) : ByteArray := ⟨[digC p].toArray⟩
theorem dS_size (p : Nat) : (dS p).size = 1 := rfl
theorem dS_eq (p : Nat) (h : p < 16) : (⟨#[48, 49, 50, 51, 52, 53, 54, 55, 56, 57, 97, 98, 99, 100, 101, 102]⟩ : ByteArray).extract p (p + 1) = dS p := by
  match p, h with
  | 0, _ => rfl
  | 1, _ => rfl
  | 2, _ => rfl
  | 3, _ => rfl
  | 4, _ => rfl
  | 5, _ => rfl
  | 6, _ => rfl
  | 7, _ => rfl
  | 8, _ => rfl
  | 9, _ => rfl
  | 10, _ => rfl
  | 11, _ => rfl
  | 12, _ => rfl
  | 13, _ => rfl
  | 14, _ => rfl
  | 15, _ => rfl
  | n + 16, h => exact absurd h (by omega)
theorem dig_step (x : Id) (k : Nat) (hk : k < 32) (b : UInt8) (hb : x.1[k]'(by rw [x.2]; exact hk) = b) (a : ByteArray) (ha : a = ⟨(hexL (x.1.take k)).toArray⟩) :
    a ++ (dS (b.toNat / 16) ++ dS (b.toNat % 16)) = ⟨(hexL (x.1.take (k + 1))).toArray⟩ := by
  subst ha
  unfold dS
  rw [mk_append, mk_append]
  congr 2
  rw [List.take_succ_eq_append_getElem (by rw [x.2]; exact hk), hb]
  unfold hexL
  rw [List.flatMap_append, List.flatMap_singleton]
  simp [hexC]
/-! ### numbers -/
def d10 (p : Nat) : ByteArray := ⟨#[UInt8.ofNat (48 + p)]⟩
theorem d10_size (p : Nat) : (d10 p).size = 1 := rfl
theorem d10_eq (p : Nat) (h : p < 10) : (⟨#[48, 49, 50, 51, 52, 53, 54, 55, 56, 57]⟩ : ByteArray).extract p (p + 1) = d10 p := by
  match p, h with
  | 0, _ => rfl
  | 1, _ => rfl
  | 2, _ => rfl
  | 3, _ => rfl
  | 4, _ => rfl
  | 5, _ => rfl
  | 6, _ => rfl
  | 7, _ => rfl
  | 8, _ => rfl
  | 9, _ => rfl
  | n + 10, h => exact absurd h (by omega)
theorem w64 (z : Int) (h1 : -9223372036854775808 ≤ z) (h2 : z ≤ 9223372036854775807) : IntKind.i64.wrap z = z := by simp [IntKind.wrap, IntKind.bits, IntKind.signed]; omega
def decB (u : Nat) : ByteArray := ⟨(Lib.decDigits u).toArray⟩
theorem decB_small (u : Nat) (h : u < 10) : decB u = d10 u := by
  unfold decB
  rw [Lib.decDigits, dif_pos h]
  rfl
theorem decB_step (u : Nat) (h : ¬ u < 10) : decB (u / 10) ++ d10 (u % 10) = decB u := by
  have e : Lib.decDigits u = Lib.decDigits (u / 10) ++ [UInt8.ofNat (48 + u % 10)] := by
    conv => lhs; rw [Lib.decDigits]
    rw [dif_neg h]
  unfold decB
  rw [e]
  exact mk_append _ [UInt8.ofNat (48 + u % 10)]
theorem decB_size (u : Nat) (h : u ≤ 9223372036854775807) : (decB u).size ≤ 21 := by
  have h1 := itoaB_size (u : Int) ⟨by omega, by omega⟩
  rwa [show itoaB (u : Int) = decB u by unfold itoaB decB; rw [Lib.itoa_nonneg]] at h1
end
section
open Go.RowKit
def nmB (v : Int) : ByteArray := if v < 1 ∨ 11 < v then ⟨#[]⟩ else (formsL[v.toNat]?.getD (⟨#[]⟩, 0, 0)).1
def wordL : List ByteArray := (formsL.drop 1).map (·.1)
theorem names52 (w : World) : Calls Tryz.prog 75 #[] w fun e w' => e = .returned (.slice (some ⟨w.heap.size, 0, none⟩) 11 11) ∧ Row w' w.heap.size (wordL.map Value.string) 9 ∧ Below w.heap.size w w' := by
  have HR := Lib.hid (And.intro (Row.new w (wordL.map Value.string) 9) (below_alloc w (.cells (wordL.map Value.string).toArray 9)))
  go_enter Tryz.func75, Tryz.ntmps75
  go_wp2
  go_ret
  exact ⟨rfl, HR.out.1, HR.out.2⟩
theorem nmB_word (v : Int) (k : Nat) (h : v = (k : Int) + 1) (hk : k < 11) : ∃ h : k < wordL.length, nmB v = wordL[k] := by
  subst h
  refine ⟨hk, ?_⟩
  unfold nmB
  rw [if_neg (by omega)]
  have : k = 0 ∨ k = 1 ∨ k = 2 ∨ k = 3 ∨ k = 4 ∨ k = 5 ∨ k = 6 ∨ k = 7 ∨ k = 8 ∨ k = 9 ∨ k = 10 := by omega
  rcases this with rfl | rfl | rfl | rfl | rfl | rfl | rfl | rfl | rfl | rfl | rfl <;> rfl
set_option maxRecDepth 100000 in
set_option maxHeartbeats 1600000 in
theorem name24 (v : Int) (w : World) : Calls Tryz.prog 57 #[.int .i64 v] w fun e w' => e = .returned (.string (nmB v)) ∧ Below w.heap.size w w' := by
  by_cases h : v < 1 ∨ 11 < v
  · have h' : v < 1 ∨ (¬ v < 1 ∧ 11 < v) := by omega
    rcases h' with h1 | ⟨h1, h2⟩
    all_goals
      go_enter Tryz.func57, Tryz.ntmps57
      go_wp2
      go_ret
      exact ⟨by unfold nmB; rw [if_pos h]; rfl, Below.refl _ _⟩
  · obtain ⟨k, hk⟩ : ∃ k : Nat, v = (k : Int) + 1 := ⟨(v - 1).toNat, by omega⟩
    have hk11 : k < 11 := by omega
    obtain ⟨hl, e⟩ := nmB_word v k hk hk11
    obtain ⟨s, hs⟩ : ∃ s, wordL[k] = s := ⟨_, rfl⟩
    rw [e, hs]
    have HK := Lib.hid (fun (u : World) (hr : Row u w.heap.size (wordL.map Value.string) 9) => (show u.cell? ⟨w.heap.size, k, none⟩ = some (.string s) by rw [hr.cell k, List.getElem?_map, List.getElem?_eq_getElem hl, hs]; rfl))
    subst hk
    have r1 : ¬ (k : Int) + 1 < 1 := by omega
    have r2 : ¬ 11 < (k : Int) + 1 := by omega
    have r3 : (k : Int) < 11 := by omega
    clear h e hs hl
    go_enter Tryz.func57, Tryz.ntmps57
    go_wp2_with (go_at_call 75; refine (names52 _).mono ?_; rintro e w1 ⟨rfl, hr1, hb1⟩; have c1 := HK.out _ hr1; have H1 := Lib.hid hb1; clear hr1 hb1)
    go_ret
    exact ⟨rfl, H1.out⟩
end
end Go.Proofs.YtfbpipknhghneaaGreatDoor
