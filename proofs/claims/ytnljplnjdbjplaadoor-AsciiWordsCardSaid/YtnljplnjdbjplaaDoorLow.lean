/- ascii.skip at any class; the classes of bytes; ascii.Lower. -/
import Derived.Test.YtnljplnjdbjplaaDoorHex
import Derived.Test.YtnljplnjdbjplaaDoorCell
namespace Go.Proofs.YtnljplnjdbjplaaDoor
open Go.RowKit
def upB (c : UInt8) : Bool := decide (65 ≤ c.toNat) && decide (c.toNat ≤ 90)
def visB (c : UInt8) : Bool := decide (33 ≤ c.toNat) && decide (c.toNat ≤ 126)
def blankB (c : UInt8) : Bool := decide (c.toNat = 32) || decide (c.toNat = 9)
def prB (c : UInt8) : Bool := visB c || decide (c.toNat = 32)
def lowB (c : UInt8) : UInt8 := if upB c = true then c + 32 else c
set_option maxHeartbeats 400000 in
theorem isUpper_b (c : UInt8) (w : World) : Calls Tryd.prog 38 #[vB c] w fun e w' => e = .returned (.bool (upB c)) ∧ w = w' := by
  go_enter Tryd.func38, Tryd.ntmps38
  go_wp2
  all_goals
    go_ret
    exact ⟨ret_bool (by unfold upB; rw [Bool.eq_iff_iff]; simp; try omega), rfl⟩
set_option maxHeartbeats 400000 in
theorem isVisible_b (c : UInt8) (w : World) : Calls Tryd.prog 43 #[vB c] w fun e w' => e = .returned (.bool (visB c)) ∧ w = w' := by
  go_enter Tryd.func43, Tryd.ntmps43
  go_wp2
  all_goals
    go_ret
    exact ⟨ret_bool (by unfold visB; rw [Bool.eq_iff_iff]; simp; try omega), rfl⟩
set_option maxHeartbeats 400000 in
theorem isBlank_b (c : UInt8) (w : World) : Calls Tryd.prog 45 #[vB c] w fun e w' => e = .returned (.bool (blankB c)) ∧ w = w' := by
  go_enter Tryd.func45, Tryd.ntmps45
  go_wp2
  all_goals
    go_ret
    exact ⟨ret_bool (by unfold blankB; rw [Bool.eq_iff_iff]; simp; try omega), rfl⟩
set_option maxHeartbeats 400000 in
theorem notBlank_b (c : UInt8) (w : World) : Calls Tryd.prog 53 #[vB c] w fun e w' => e = .returned (.bool (!blankB c)) ∧ w = w' := by
  go_enter Tryd.func53, Tryd.ntmps53
  go_wp2_with (go_at_call 45; refine (isBlank_b _ _).mono ?_; rintro e w' ⟨rfl, rfl⟩)
  go_ret
  exact ⟨rfl, rfl⟩
set_option maxHeartbeats 400000 in
theorem isPrint_b (c : UInt8) (w : World) : Calls Tryd.prog 61 #[vB c] w fun e w' => e = .returned (.bool (prB c)) ∧ w = w' := by
  rcases hv : visB c with _ | _
  · have H := Lib.hid hv
    go_enter Tryd.func61, Tryd.ntmps61
    go_wp2_with (go_at_call 43; refine (isVisible_b _ _).mono ?_; rintro e w' ⟨rfl, rfl⟩; rw [hv])
    all_goals
      go_ret
      exact ⟨ret_bool (by unfold prB; rw [H.out]; rw [Bool.eq_iff_iff]; simp; try omega), rfl⟩
  · have H := Lib.hid hv
    go_enter Tryd.func61, Tryd.ntmps61
    go_wp2_with (go_at_call 43; refine (isVisible_b _ _).mono ?_; rintro e w' ⟨rfl, rfl⟩; rw [hv])
    all_goals
      go_ret
      exact ⟨ret_bool (by unfold prB; rw [H.out]; simp), rfl⟩
set_option maxHeartbeats 400000 in
theorem skip_p (f : Nat) (p : UInt8 → Bool) (hc : ∀ c w, Calls Tryd.prog f #[vB c] w fun e w' => e = .returned (.bool (p c)) ∧ w = w') (hcf : ∀ (args : Array Value) (W : World), Sem.run Tryd.prog (callFunc f args) W = .ok (.enter f args) W) (s : ByteArray) (k : Nat) (w : World) (hk : k ≤ s.size) (hs : s.size ≤ 4611686018427387904) :
    Calls Tryd.prog 52 #[.string s, .int .i64 (k : Int), .func (.func f) #[] #[]] w fun e w' => e = .returned (.int .i64 ((k + runL p ((bl s).drop k) : Nat) : Int)) ∧ w = w' := by
  have HC := Lib.hid hc
  clear hc
  go_enter Tryd.func52, Tryd.ntmps52
  go_wp2
  go_loop [1] (fun i => ∃ j : Nat, j ≤ s.size ∧ i = .int .i64 j ∧ k + runL p ((bl s).drop k) = j + runL p ((bl s).drop j)) (fun i => s.size - (intOf i).toNat)
  case atStart => exact ⟨k, hk, rfl, rfl⟩
  case round =>
    obtain ⟨j, hj, rfl, he⟩ := hrel
    by_cases hlt : j < s.size
    · rcases hp : p s[j] with _ | _
      · rw [runL_no p s j hlt hp] at he
        have HE := Lib.hid he; clear he
        go_wp2_with (refine (HC.out _ _).mono ?_; rintro e w' ⟨rfl, rfl⟩; rw [hp])
        go_ret
        exact ⟨ret_int (by have := HE.out; omega), rfl⟩
      · rw [runL_yes p s j hlt hp] at he
        have HE := Lib.hid he; clear he
        go_wp2_with (refine (HC.out _ _).mono ?_; rintro e w' ⟨rfl, rfl⟩; rw [hp])
        go_round
        case rel => exact ⟨j + 1, hlt, by go_num, by rw [HE.out]; omega⟩
        case measure => simp [intOf]; omega
    · rw [runL_end p s j (by omega)] at he
      have HE := Lib.hid he; clear he
      have hjn : j = s.size := by omega
      subst hjn
      go_wp2
      go_ret
      exact ⟨ret_int (by have := HE.out; omega), rfl⟩
/-- The bytes with the first k lowered. -/
def lk (l : List UInt8) (k : Nat) : List UInt8 := (l.take k).map lowB ++ l.drop k
theorem lk_length (l : List UInt8) (k : Nat) : (lk l k).length = l.length := by simp [lk]; omega
theorem lk_get (l : List UInt8) (k : Nat) (hk : k < l.length) : (lk l k)[k]? = some l[k] := by
  unfold lk
  rw [List.getElem?_append_right (by simp; omega)]
  simp [show min k l.length = k by omega, List.getElem?_eq_getElem hk]
theorem lk_succ (l : List UInt8) (k : Nat) (hk : k < l.length) : (lk l k).set k (lowB l[k]) = lk l (k + 1) := by
  unfold lk
  have h1 : ((l.take k).map lowB).length = k := by simp; omega
  have h2 : l.take (k + 1) = l.take k ++ [l[k]] := by rw [List.take_add_one, List.getElem?_eq_getElem hk]; rfl
  rw [List.set_append_right _ _ (by omega), h1, Nat.sub_self, List.drop_eq_getElem_cons hk, List.set_cons_zero, h2, List.map_append, List.append_assoc]
  rfl
theorem lk_same (l : List UInt8) (k : Nat) (hk : k < l.length) (h : lowB l[k] = l[k]) : lk l (k + 1) = lk l k := by
  rw [← lk_succ l k hk, h]
  apply List.ext_getElem?
  intro j
  rw [List.getElem?_set]
  split
  · rename_i hj
    subst hj
    rw [lk_get l k hk]
    simp [lk_length, hk]
  · rfl
theorem lk_end (l : List UInt8) : lk l l.length = l.map lowB := by simp [lk]
theorem add0 (g k : Nat) : (⟨g, 0, none⟩ : Addr).add k = ⟨g, k, none⟩ := by unfold Addr.add; split <;> simp_all
theorem conv_sb (s : ByteArray) (w : World) : ∃ g cap W1, g = w.heap.size ∧ (convert 9 39 (.string s)).run Tryd.prog w = .ok (.slice (some ⟨g, 0, none⟩) s.size cap) W1 ∧ Below w.heap.size w W1 ∧ At W1 ⟨g, 0, none⟩ ((bl s).map cB) ∧ ∀ j, j < s.size → W1.frozen? ⟨g, j, none⟩ = false := by
  refine ⟨_, _, _, rfl, run_bytes_of_string w 9 39 5 s Tryd.underlying9 underBs Tryd.underlying5, (below_drew w).trans (below_alloc w.drew _), ?_, ?_⟩
  · refine ⟨by simp, fun j u hu => ?_⟩
    rw [add0]
    have hn : (w.drew.alloc (.cells (bytesRow s (grownCap w s.size 0 5)) 5 ((bytesRow s (grownCap w s.size 0 5)).size, (bytesRow s (grownCap w s.size 0 5)).size + 1))).cell? ⟨w.heap.size, j, none⟩ = (bytesRow s (grownCap w s.size 0 5))[j]? := World.cell?_alloc_mark w.drew _ _ _ j
    rw [hn]
    unfold bytesRow
    have hj : j < s.size := by have := (List.getElem?_eq_some_iff.1 hu).1; simpa using this
    rw [Array.getElem?_append_left (by simpa using hj)]
    rw [← hu]
    simp
    rfl
  · intro j hj
    have hn : (w.drew.alloc (.cells (bytesRow s (grownCap w s.size 0 5)) 5 ((bytesRow s (grownCap w s.size 0 5)).size, (bytesRow s (grownCap w s.size 0 5)).size + 1))).heap[w.heap.size]? = some (.cells (bytesRow s (grownCap w s.size 0 5)) 5 ((bytesRow s (grownCap w s.size 0 5)).size, (bytesRow s (grownCap w s.size 0 5)).size + 1)) := by
      show (w.heap.push _)[w.heap.size]? = _
      simp
    have hsz : s.size ≤ (bytesRow s (grownCap w s.size 0 5)).size := by simp [bytesRow]
    unfold World.frozen?
    simp only [hn]
    simp
    omega
theorem Sl.of_at {w : World} {ad : Addr} {l : List UInt8} (h : At w ad (l.map cB)) : Sl w c1 (some ad) l := by
  have e : l.flatMap c1 = l.map cB := by
    clear h
    induction l with
    | nil => rfl
    | cons b r ih => rw [List.flatMap_cons, ih]; rfl
  exact fun _ => ⟨_, rfl, by rw [e]; exact h⟩
set_option maxHeartbeats 800000 in
theorem lower15 (s : ByteArray) (w : World) (hs : s.size ≤ 4294967296) :
    Calls Tryd.prog 15 #[.string s] w fun e w' => e = .returned (.string ⟨((bl s).map lowB).toArray⟩) ∧ Below w.heap.size w w' := by
  obtain ⟨g, cap, W1, hg, hcv, hb, hat, hfz⟩ := conv_sb s w
  have H := Lib.hid (And.intro hb (And.intro hat (And.intro hfz hg)))
  clear hb hat hfz hg
  go_enter Tryd.func15, Tryd.ntmps15
  go_wp2
  go_loopw [10] (fun i wr => ∃ k : Nat, k ≤ s.size ∧ i = .int .i64 k ∧ At wr ⟨g, 0, none⟩ ((lk (bl s) k).map cB) ∧ (∀ j, j < s.size → wr.frozen? ⟨g, j, none⟩ = false) ∧ Below w.heap.size w wr) (fun i _ => s.size - (intOf i).toNat)
  case atStart => exact ⟨0, Nat.zero_le _, rfl, by simpa [lk] using H.out.2.1, H.out.2.2.1, H.out.1⟩
  case round =>
    obtain ⟨k, hk, rfl, hat, hfz, hb⟩ := hrel
    clear hcv
    by_cases hlt : k < s.size
    · have hl : k < (bl s).length := by rw [bl_length]; exact hlt
      obtain ⟨c, hc⟩ : ∃ c, (bl s)[k] = c := ⟨_, rfl⟩
      have hcell : wr.cell? ⟨g, k, none⟩ = some (vB c) := by
        rw [← add0]
        refine hat.2 k _ ?_
        rw [List.getElem?_map, lk_get _ _ hl, hc]
        rfl
      have hfk := hfz k hlt
      have HR := Lib.hid (And.intro hat (And.intro hfz (And.intro hb hc)))
      clear hat hfz hb hc
      cases hu : upB c with
      | true =>
        have hu1 : (c.toNat : Int) ≤ 90 := by unfold upB at hu; simp at hu; omega
        go_wp2_with (go_at_call 38; refine (isUpper_b _ _).mono ?_; rintro e w' ⟨rfl, rfl⟩; rw [hu])
        have hv : Value.int .u8 ((c.toNat : Int) + 32) = cB (lowB (bl s)[k]) := by
          rw [HR.out.2.2.2]
          unfold lowB cB
          rw [if_pos hu]
          have : (c + 32).toNat = c.toNat + 32 := by rw [UInt8.toNat_add]; simp; omega
          rw [this]
          rfl
        have hat2 := At.setCell HR.out.1 (k := k) (by rw [List.length_map, lk_length]; exact hl) (.int .u8 ((c.toNat : Int) + 32))
        rw [show ((lk (bl s) k).map cB).set k (.int .u8 ((c.toNat : Int) + 32)) = (lk (bl s) (k + 1)).map cB by rw [hv, ← List.map_set, lk_succ _ _ hl]] at hat2
        go_roundw
        case rel => exact ⟨k + 1, hlt, by go_num, hat2, fun j hj => by rw [World.frozen?_setCell]; exact HR.out.2.1 j hj, HR.out.2.2.1.setCell (p := ⟨g, k, none⟩) (by have := H.out.2.2.2; simp; omega) _⟩
        case measure => simp [intOf]; omega
      | false =>
        go_wp2_with (go_at_call 38; refine (isUpper_b _ _).mono ?_; rintro e w' ⟨rfl, rfl⟩; rw [hu])
        go_roundw
        case rel => exact ⟨k + 1, hlt, by go_num, by rw [lk_same _ _ hl (by rw [HR.out.2.2.2]; unfold lowB; rw [if_neg (by simp [hu])])]; exact HR.out.1, HR.out.2.1, HR.out.2.2.1⟩
        case measure => simp [intOf]; omega
    · have hkn : k = s.size := by omega
      subst hkn
      have hcv2 := conv_bs (n := s.size) (c := cap) (Sl.of_at hat) (by rw [lk_length, bl_length]) (by simp)
      have he : lk (bl s) s.size = (bl s).map lowB := by rw [← bl_length]; exact lk_end _
      rw [he] at hcv2
      have HR := Lib.hid hb
      clear hat hfz hb he
      go_wp2
      go_ret
      exact ⟨rfl, HR.out⟩
end Go.Proofs.YtnljplnjdbjplaaDoor
