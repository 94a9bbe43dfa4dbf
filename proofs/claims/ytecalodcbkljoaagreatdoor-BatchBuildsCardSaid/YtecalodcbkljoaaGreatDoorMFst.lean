/- A cursor: the first error is kept; the next line. The first and the last line of a batch, read by a cursor. -/
import Derived.Test.YtecalodcbkljoaaGreatDoorMOne
import Derived.Test.YtecalodcbkljoaaGreatDoorMCan
import Derived.Test.YtecalodcbkljoaaGreatDoorMLai
import Derived.Lib.IndexLaws
namespace Go.Proofs.YtecalodcbkljoaaGreatDoor
open Go.RowKit
theorem One.set2 {g : Nat} {w w' : World} (h : One g w w') (k : Nat) (v : Value) : One g w (w'.setCell ⟨g, k, none⟩ v) := h.trans (One.set k v)
set_option maxHeartbeats 800000 in
theorem fail_c (g : Nat) (x : Cu) (e k : Int) (w : World) (hrow : Row w g (cU x) 73) (h0 : x.err = 0) :
    Calls Tryz.prog 55 #[.pointer (some ⟨g, 0, none⟩), .int .i64 e, .int .i64 k] w fun en w' => en = .returned (.tuple #[]) ∧ One g w w' ∧ Row w' g (cU { x with err := e, wh := k }) 73 := by
  have c2 : w.cell? ⟨g, 2, none⟩ = some (.int .i64 0) := by rw [hrow.cell, ← h0]; rfl
  have z2 : w.frozen? ⟨g, 2, none⟩ = false := hrow.fz 2
  have hr1 := hrow.set 2 (.int .i64 e)
  obtain ⟨W1, hW1⟩ : ∃ W1, w.setCell ⟨g, 2, none⟩ (.int .i64 e) = W1 := ⟨_, rfl⟩
  have c3 : W1.cell? ⟨g, 3, none⟩ = some (.int .i64 x.wh) := by rw [← hW1, hr1.cell]; rfl
  have z3 : W1.frozen? ⟨g, 3, none⟩ = false := by rw [← hW1]; exact hr1.fz 3
  have HF := Lib.hid (show One g w (W1.setCell ⟨g, 3, none⟩ (.int .i64 k)) ∧ Row (W1.setCell ⟨g, 3, none⟩ (.int .i64 k)) g (cU { x with err := e, wh := k }) 73 from by
    subst hW1
    exact ⟨(One.set 2 _).trans (One.set 3 _), hr1.set 3 (.int .i64 k)⟩)
  clear hrow hr1 h0
  go_enter Tryz.func55, Tryz.ntmps55
  go_wp2
  go_end0
  exact ⟨rfl, HF.out.1, HF.out.2⟩
/-- The offset of the first line feed, as the library finds it. -/
theorem nlAt_index : ∀ (l : List UInt8), Lib.indexByte l 10 = match nlAt l with | none => -1 | some n => (n : Int)
  | [] => rfl
  | c :: r => by
    have ih := nlAt_index r
    unfold Lib.indexByte nlAt
    by_cases hc : c = 10
    · subst hc
      rfl
    · rw [if_neg (by simpa using hc), if_neg hc, ih]
      cases nlAt r with
      | none => rfl
      | some n =>
        simp only [Option.map_some]
        rw [if_neg (by simp)]
        rfl
theorem bl_from (s : ByteArray) (a : Nat) : bl (s.extract a s.size) = (bl s).drop a := by
  rw [show bl (s.extract a s.size) = (s.extract a s.size).data.toList from rfl, Lib.extract_data, List.take_of_length_le (by rw [List.length_drop, bl_length]; exact Nat.le_refl _)]
theorem bl_piece (s : ByteArray) (a n : Nat) : bl (s.extract a (a + n)) = ((bl s).drop a).take n := by
  rw [show bl (s.extract a (a + n)) = (s.extract a (a + n)).data.toList from rfl, Lib.extract_data, Nat.add_sub_cancel_left]
section
variable (g : Nat) (x : Cu) (a : Nat) (w : World)
set_option maxHeartbeats 800000 in
theorem line_err (hrow : Row w g (cU x) 73) (h0 : x.err ≠ 0) :
    Calls Tryz.prog 52 #[.pointer (some ⟨g, 0, none⟩)] w fun e w' => e = .returned (.tuple #[.string ⟨#[]⟩, .int .i64 0]) ∧ w' = w := by
  have c2 : w.cell? ⟨g, 2, none⟩ = some (.int .i64 x.err) := by rw [hrow.cell]; rfl
  have hb : (x.err != 0) = true := by simpa using h0
  clear hrow h0
  go_enter Tryz.func52, Tryz.ntmps52
  go_wp2
  go_ret2
  exact ⟨rfl, rfl⟩
set_option maxHeartbeats 1600000 in
theorem line_no (hrow : Row w g (cU x) 73) (h0 : x.err = 0) (ha : x.at_ = (a : Int)) (_hsz : x.text.size ≤ 1073741824) (hle : a ≤ x.text.size) (hn : nlAt ((bl x.text).drop a) = none) :
    Calls Tryz.prog 52 #[.pointer (some ⟨g, 0, none⟩)] w fun e w' => e = .returned (.tuple #[.string ⟨#[]⟩, .int .i64 0]) ∧ One g w w' ∧ Row w' g (cU { x with err := 23, wh := (x.text.size : Int) }) 73 := by
  have c0 : w.cell? ⟨g, 0, none⟩ = some (.string x.text) := by rw [hrow.cell]; rfl
  have c1 : w.cell? ⟨g, 1, none⟩ = some (.int .i64 (a : Int)) := by rw [hrow.cell, ← ha]; rfl
  have c2 : w.cell? ⟨g, 2, none⟩ = some (.int .i64 0) := by rw [hrow.cell, ← h0]; rfl
  have hix : Lib.indexByte (x.text.extract a x.text.size).data.toList ((10 : Int).toNat.toUInt8) = -1 := by
    have h := nlAt_index ((bl x.text).drop a)
    rw [hn, ← bl_from] at h
    exact h
  have HF := Lib.hid (fail_c g x 23 (x.text.size : Int) w hrow h0)
  have HX := Lib.hid hix
  have hlei : (a : Int) ≤ (x.text.size : Int) := by omega
  clear hrow h0 ha hn hix
  go_enter Tryz.func52, Tryz.ntmps52
  go_wp2_with (first
    | (go_at_call 44; refine (Tryz.strings_IndexByte _ _ _).mono ?_; rintro e w1 ⟨rfl, rfl⟩; rw [HX.out])
    | (go_at_call 55; refine HF.out.mono ?_; rintro e w2 ⟨rfl, ho2, hr2⟩; have H2 := Lib.hid (And.intro ho2 hr2); clear ho2 hr2))
  go_ret2
  exact ⟨rfl, H2.out.1, H2.out.2⟩
set_option maxRecDepth 100000 in
set_option maxHeartbeats 1600000 in
theorem line_yes (n : Nat) (hrow : Row w g (cU x) 73) (h0 : x.err = 0) (ha : x.at_ = (a : Int)) (hsz : x.text.size ≤ 1073741824) (hle : a ≤ x.text.size) (hn : nlAt ((bl x.text).drop a) = some n) :
    Calls Tryz.prog 52 #[.pointer (some ⟨g, 0, none⟩)] w fun e w' => e = .returned (.tuple #[.string (x.text.extract a (a + n)), .int .i64 (a : Int)]) ∧ One g w w' ∧ Row w' g (cU { x with at_ := ((a + n + 1 : Nat) : Int) }) 73 := by
  have hlt : a + n < x.text.size := by
    have := (nlAt_spec hn).2.2
    rw [List.length_drop, bl_length] at this
    omega
  have c0 : w.cell? ⟨g, 0, none⟩ = some (.string x.text) := by rw [hrow.cell]; rfl
  have c1 : w.cell? ⟨g, 1, none⟩ = some (.int .i64 (a : Int)) := by rw [hrow.cell, ← ha]; rfl
  have c2 : w.cell? ⟨g, 2, none⟩ = some (.int .i64 0) := by rw [hrow.cell, ← h0]; rfl
  have z1 : w.frozen? ⟨g, 1, none⟩ = false := hrow.fz 1
  have hix : Lib.indexByte (x.text.extract a x.text.size).data.toList ((10 : Int).toNat.toUInt8) = (n : Int) := by
    have h := nlAt_index ((bl x.text).drop a)
    rw [hn, ← bl_from] at h
    exact h
  have HX := Lib.hid hix
  have hlei : (a : Int) ≤ (x.text.size : Int) := by omega
  have hr1 := hrow.set 1 (.int .i64 ((a : Int) + (n : Int) + 1))
  obtain ⟨W1, hW1⟩ : ∃ W1, w.setCell ⟨g, 1, none⟩ (.int .i64 ((a : Int) + (n : Int) + 1)) = W1 := ⟨_, rfl⟩
  rw [hW1] at hr1
  have H1 := Lib.hid (show One g w W1 ∧ Row W1 g (cU { x with at_ := ((a + n + 1 : Nat) : Int) }) 73 from ⟨by rw [← hW1]; exact One.set 1 _, by
    have e : ((a + n + 1 : Nat) : Int) = (a : Int) + (n : Int) + 1 := by omega
    rw [e]
    exact hr1⟩)
  have d0 : W1.cell? ⟨g, 0, none⟩ = some (.string x.text) := H1.out.2.cell 0
  have hlt2 : (a : Int) + (n : Int) < (x.text.size : Int) := by omega
  have hb1 : (x.text.size : Int) ≤ 1073741824 := by omega
  clear hrow h0 ha hn hix hr1
  go_enter Tryz.func52, Tryz.ntmps52
  go_wp2_with (go_at_call 44; refine (Tryz.strings_IndexByte _ _ _).mono ?_; rintro e w1 ⟨rfl, rfl⟩; rw [HX.out])
  go_ret2
  exact ⟨rfl, H1.out.1, H1.out.2⟩
end
end Go.Proofs.YtecalodcbkljoaaGreatDoor
namespace Go.Proofs.YtecalodcbkljoaaGreatDoor
open Go.RowKit
theorem prefix_take (p l : List UInt8) : Lib.hasPrefix l p = true ↔ l.take p.length = p := by
  unfold Lib.hasPrefix
  rw [List.isPrefixOf_iff_prefix, List.prefix_iff_eq_take]
  exact ⟨fun h => h.symm, fun h => h.symm⟩
def batW : List UInt8 := [98, 97, 116, 99, 104, 32]
/-- What is left of a cursor: its offset, or its error. -/
def CuR (g : Nat) (s : ByteArray) (r : Except (Int × Nat) Nat) (w : World) : Prop :=
  match r with
  | .ok a => Row w g (cU ⟨s, (a : Int), 0, 0⟩) 73 ∧ a ≤ s.size
  | .error (e, k) => e ≠ 0 ∧ ∃ at_, Row w g (cU ⟨s, at_, e, (k : Int)⟩) 73
def firstV (r : Except (Int × Nat) (Nat × Nat)) : Int := match r with | .ok (n, _) => (n : Int) | .error _ => 0
def firstA (r : Except (Int × Nat) (Nat × Nat)) : Except (Int × Nat) Nat := match r with | .ok (_, a) => .ok a | .error e => .error e
set_option maxRecDepth 100000 in
set_option maxHeartbeats 3200000 in
theorem first_c (g : Nat) (s : ByteArray) (w : World) (hrow : Row w g (cU ⟨s, 0, 0, 0⟩) 73) (hsz : s.size ≤ 1073741824) :
    Calls Tryz.prog 31 #[.pointer (some ⟨g, 0, none⟩)] w fun e w' => e = .returned (.int .i64 (firstV (firstP (bl s)))) ∧ One g w w' ∧ CuR g s (firstA (firstP (bl s))) w' := by
  have hS := bl_length s
  rcases hq : nlAt (bl s) with _ | n
  · have hr : firstP (bl s) = .error (23, s.size) := by unfold firstP; rw [hq, hS]
    rw [hr]
    have HL := Lib.hid (line_no g ⟨s, 0, 0, 0⟩ 0 w hrow rfl rfl hsz (Nat.zero_le _) hq)
    clear hrow hq hr hS
    go_enter Tryz.func31, Tryz.ntmps31
    go_wp2_with (go_at_call 52; refine HL.out.mono ?_; rintro e w1 ⟨rfl, ho1, hr1⟩; have c2 : w1.cell? ⟨g, 2, none⟩ = some (.int .i64 23) := (hr1.cell 2).trans rfl; have H1 := Lib.hid (And.intro ho1 hr1); clear ho1 hr1)
    go_ret
    exact ⟨rfl, H1.out.1, by decide, _, H1.out.2⟩
  · have hlt := (nlAt_spec hq).2.2
    rw [hS] at hlt
    obtain ⟨L, hL⟩ : ∃ L, s.extract 0 (0 + n) = L := ⟨_, rfl⟩
    have hbl : bl L = (bl s).take n := by rw [← hL, bl_piece, List.drop_zero]
    have HL := Lib.hid (line_yes g ⟨s, 0, 0, 0⟩ 0 w n hrow rfl rfl hsz (Nat.zero_le _) hq)
    have hLs : L.size ≤ 1073741824 := by rw [← bl_length, hbl, List.length_take]; omega
    obtain ⟨P, hP⟩ : ∃ P : ByteArray, ⟨(Lib.trimPrefix L.data.toList batW).toArray⟩ = P := ⟨_, rfl⟩
    have hPs : P.size ≤ 4294967296 := by
      rw [← bl_length, ← hP]
      show (Lib.trimPrefix L.data.toList batW).length ≤ _
      unfold Lib.trimPrefix
      have h3 : L.data.toList.length = L.size := bl_length L
      split
      · rw [List.length_drop]; omega
      · omega
    obtain ⟨v, hv⟩ : ∃ v, numE (bl P) 1000 = v := ⟨_, rfl⟩
    obtain ⟨v1, v2⟩ := v
    have HN := Lib.hid (fun W => number29 P 1000 (by omega) (by omega) (v1, v2) hv W hPs)
    have HC := Lib.hid (fun W => Tryz.strings_CutPrefix L ⟨#[98, 97, 116, 99, 104, 32]⟩ W)
    have HPP := Lib.hid hP
    have HLL := Lib.hid hL
    rcases hpre : Lib.hasPrefix L.data.toList batW with _ | _
    · have hne : ¬ ((bl s).take n).take 6 = [98, 97, 116, 99, 104, 32] := by
        intro h
        rw [← hbl] at h
        have := (prefix_take batW L.data.toList).2 h
        rw [hpre] at this
        cases this
      have hr : firstP (bl s) = .error (3, 0) := by
        unfold firstP
        rw [hq]
        simp only []
        rw [if_neg (fun h => hne h.1)]
      rw [hr]
      have HPR := Lib.hid hpre
      clear hrow hq hr hS hbl hP hv hpre hne hL hLs hPs hlt
      go_enter Tryz.func31, Tryz.ntmps31
      go_wp2_with (first
        | (go_at_call 52; refine HL.out.mono ?_; rintro e w1 ⟨rfl, ho1, hr1⟩; rw [HLL.out]; have c2 : w1.cell? ⟨g, 2, none⟩ = some (.int .i64 0) := (hr1.cell 2).trans rfl; have H1 := Lib.hid (And.intro ho1 hr1); clear ho1 hr1)
        | (go_at_call 53; refine (HC.out _).mono ?_; rintro e w2 ⟨rfl, rfl⟩; rw [show Lib.hasPrefix L.data.toList (⟨#[98, 97, 116, 99, 104, 32]⟩ : ByteArray).data.toList = false from HPR.out, show (⟨(Lib.trimPrefix L.data.toList (⟨#[98, 97, 116, 99, 104, 32]⟩ : ByteArray).data.toList).toArray⟩ : ByteArray) = P from HPP.out])
        | (go_at_call 54; refine (HN.out _).mono ?_; rintro e w3 ⟨rfl, rfl⟩; have HF := Lib.hid (fail_c g _ 3 0 _ H1.out.2 rfl))
        | (go_at_call 55; refine HF.out.mono ?_; rintro e w4 ⟨rfl, ho4, hr4⟩; have H4 := Lib.hid (And.intro (H1.out.1.trans ho4) hr4); clear ho4 hr4))
      go_ret
      exact ⟨rfl, H4.out.1, by decide, _, H4.out.2⟩
    · have hyes : ((bl s).take n).take 6 = [98, 97, 116, 99, 104, 32] := by
        rw [← hbl]
        exact (prefix_take batW L.data.toList).1 hpre
      have hdr : bl P = ((bl s).take n).drop 6 := by
        rw [← hP, ← hbl]
        show Lib.trimPrefix L.data.toList batW = _
        unfold Lib.trimPrefix
        rw [if_pos hpre]
        rfl
      rw [hdr] at hv
      by_cases h0 : v2 = 0
      · subst h0
        obtain ⟨-, h2, h3⟩ := numE_back (b := ((bl s).take n).drop 6) (m := 1000) (v := v1) (by rw [hv]) (by rw [hv])
        obtain ⟨k, rfl⟩ : ∃ k : Nat, v1 = (k : Int) := ⟨v1.toNat, by omega⟩
        have hr : firstP (bl s) = .ok (k, n + 1) := by
          unfold firstP
          rw [hq]
          simp only []
          rw [if_pos ⟨hyes, by rw [hv]⟩, hv]
          rfl
        rw [hr]
        have HPR := Lib.hid hpre
        have HLT := Lib.hid hlt
        clear hrow hq hr hS hbl hP hv hpre hyes hdr hL hLs hPs h2 h3 hlt
        go_enter Tryz.func31, Tryz.ntmps31
        go_wp2_with (first
          | (go_at_call 52; refine HL.out.mono ?_; rintro e w1 ⟨rfl, ho1, hr1⟩; rw [HLL.out]; have c2 : w1.cell? ⟨g, 2, none⟩ = some (.int .i64 0) := (hr1.cell 2).trans rfl; have H1 := Lib.hid (And.intro ho1 hr1); clear ho1 hr1)
          | (go_at_call 53; refine (HC.out _).mono ?_; rintro e w2 ⟨rfl, rfl⟩; rw [show Lib.hasPrefix L.data.toList (⟨#[98, 97, 116, 99, 104, 32]⟩ : ByteArray).data.toList = true from HPR.out, show (⟨(Lib.trimPrefix L.data.toList (⟨#[98, 97, 116, 99, 104, 32]⟩ : ByteArray).data.toList).toArray⟩ : ByteArray) = P from HPP.out])
          | (go_at_call 54; refine (HN.out _).mono ?_; rintro e w3 ⟨rfl, rfl⟩))
        go_ret
        exact ⟨rfl, H1.out.1, by have h := H1.out.2; rw [Nat.zero_add] at h; exact h, HLT.out⟩
      · have hr : firstP (bl s) = .error (3, 0) := by
          unfold firstP
          rw [hq]
          simp only []
          rw [if_neg (fun h => h0 (by have := h.2; rw [hv] at this; exact this))]
        rw [hr]
        have h0b : (v2 != 0) = true := by simpa using h0
        have HPR := Lib.hid hpre
        clear hrow hq hr hS hbl hP hv hpre hyes hdr hL hLs hPs h0 hlt
        go_enter Tryz.func31, Tryz.ntmps31
        go_wp2_with (first
          | (go_at_call 52; refine HL.out.mono ?_; rintro e w1 ⟨rfl, ho1, hr1⟩; rw [HLL.out]; have c2 : w1.cell? ⟨g, 2, none⟩ = some (.int .i64 0) := (hr1.cell 2).trans rfl; have H1 := Lib.hid (And.intro ho1 hr1); clear ho1 hr1)
          | (go_at_call 53; refine (HC.out _).mono ?_; rintro e w2 ⟨rfl, rfl⟩; rw [show Lib.hasPrefix L.data.toList (⟨#[98, 97, 116, 99, 104, 32]⟩ : ByteArray).data.toList = true from HPR.out, show (⟨(Lib.trimPrefix L.data.toList (⟨#[98, 97, 116, 99, 104, 32]⟩ : ByteArray).data.toList).toArray⟩ : ByteArray) = P from HPP.out])
          | (go_at_call 54; refine (HN.out _).mono ?_; rintro e w3 ⟨rfl, rfl⟩; have HF := Lib.hid (fail_c g _ 3 0 _ H1.out.2 rfl))
          | (go_at_call 55; refine HF.out.mono ?_; rintro e w4 ⟨rfl, ho4, hr4⟩; have H4 := Lib.hid (And.intro (H1.out.1.trans ho4) hr4); clear ho4 hr4))
        go_ret
        exact ⟨rfl, H4.out.1, by decide, _, H4.out.2⟩
end Go.Proofs.YtecalodcbkljoaaGreatDoor
