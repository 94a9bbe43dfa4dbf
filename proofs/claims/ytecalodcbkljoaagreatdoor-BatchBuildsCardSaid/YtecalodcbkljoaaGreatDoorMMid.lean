/- The classes of bytes of message identifiers, and what a text that is one stands for. msgid.Parse: the identity of a message identifier, or the code of an error. -/
import Derived.Test.YtecalodcbkljoaaGreatDoorMUnhex
import Derived.Test.YtecalodcbkljoaaGreatDoorMTy
import Derived.Test.YtecalodcbkljoaaGreatDoorMCell
namespace Go.Proofs.YtecalodcbkljoaaGreatDoor
open Go.RowKit
/-- A blank. -/
def blkB (c : UInt8) : Bool := decide (c.toNat = 32) || decide (c.toNat = 9)
/-- Which byte can stand at an offset of a message identifier. -/
def okAt (i : Nat) (c : UInt8) : Bool := if i < 1 then decide (c.toNat = 60) else if i < 65 then hexB c else decide (c.toNat = [64, 104, 97, 115, 104, 62].getD (i - 65) 0)
def identB (l : List UInt8) : Bool := decide (l.length = 71) && (List.range 71).all fun i => okAt i (l.getD i 0)
def toId (l : List UInt8) : Id := if h : l.length = 32 then ⟨l, h⟩ else zI
def midL (l : List UInt8) : Id := toId (unhexL ((l.drop 1).take 64))
def identL (l : List UInt8) : Option Id := if identB l = true then some (midL l) else none
set_option maxHeartbeats 400000 in
theorem isDigit_m (c : UInt8) (w : World) : Calls Tryz.prog 95 #[vB c] w fun e w' => e = .returned (.bool (hexB c)) ∧ w = w' := by
  rcases hd : digB c with _ | _
  all_goals
    go_enter Tryz.func95, Tryz.ntmps95
    go_wp2_with (go_at_call 72; refine (isDigit_b _ _).mono ?_; rintro e w' ⟨rfl, rfl⟩)
    all_goals
      go_ret
      exact ⟨ret_bool (by unfold hexB; rw [Bool.eq_iff_iff]; simp [hd]; try omega), rfl⟩
theorem hexI_eq (c : UInt8) : hexI c = if 48 ≤ (c.toNat : Int) ∧ (c.toNat : Int) ≤ 57 then (c.toNat : Int) - 48 else if 97 ≤ (c.toNat : Int) ∧ (c.toNat : Int) ≤ 102 then (c.toNat : Int) - 97 + 10 else -1 := by
  unfold hexI hexB digB hexV
  by_cases h1 : 48 ≤ (c.toNat : Int) ∧ (c.toNat : Int) ≤ 57
  · have a : 48 ≤ c.toNat := by omega
    have b : c.toNat ≤ 57 := by omega
    simp [a, b, h1]
    omega
  · by_cases h2 : 97 ≤ (c.toNat : Int) ∧ (c.toNat : Int) ≤ 102
    · have a : 97 ≤ c.toNat := by omega
      have b : c.toNat ≤ 102 := by omega
      have d : ¬ c.toNat ≤ 57 := by omega
      simp [a, b, d, h1, h2]
      omega
    · have a : ¬ ((48 ≤ c.toNat ∧ c.toNat ≤ 57) ∨ (97 ≤ c.toNat ∧ c.toNat ≤ 102)) := by omega
      simp [h1, h2]
      omega
theorem hexI_dig (c : UInt8) (h1 : 48 ≤ (c.toNat : Int)) (h2 : (c.toNat : Int) ≤ 57) : hexI c = (c.toNat : Int) - 48 := by rw [hexI_eq, if_pos ⟨h1, h2⟩]
theorem hexI_low (c : UInt8) (h1 : 97 ≤ (c.toNat : Int)) (h2 : (c.toNat : Int) ≤ 102) : hexI c = (c.toNat : Int) - 97 + 10 := by rw [hexI_eq, if_neg (by omega), if_pos ⟨h1, h2⟩]
theorem hexI_no (c : UInt8) (h1 : (c.toNat : Int) < 48 ∨ 57 < (c.toNat : Int)) (h2 : (c.toNat : Int) < 97 ∨ 102 < (c.toNat : Int)) : hexI c = -1 := by rw [hexI_eq, if_neg (by omega), if_neg (by omega)]
theorem beq_byte (c : UInt8) (n : Nat) : ((c.toNat : Int) == (n : Int)) = decide (c.toNat = n) := by
  rw [Bool.eq_iff_iff]; simp; omega
set_option maxHeartbeats 800000 in
theorem fits_b (i : Nat) (c : UInt8) (w : World) (hi : i < 71) : Calls Tryz.prog 88 #[.int .i64 (i : Int), vB c] w fun e w' => e = .returned (.bool (okAt i c)) ∧ w = w' := by
  have hcase : i = 0 ∨ (1 ≤ i ∧ i < 65) ∨ i = 65 ∨ i = 66 ∨ i = 67 ∨ i = 68 ∨ i = 69 ∨ i = 70 := by omega
  clear hi
  rcases hcase with rfl | ⟨h1, h2⟩ | rfl | rfl | rfl | rfl | rfl | rfl
  case inr.inl =>
    have h3 : ¬ (i : Int) < 1 := by omega
    have h4 : (i : Int) < 65 := by omega
    have e : okAt i c = hexB c := by unfold okAt; rw [if_neg (by omega), if_pos h2]
    have H := Lib.hid e; clear e
    go_enter Tryz.func88, Tryz.ntmps88
    go_wp2_with (go_at_call 95; refine (isDigit_m _ _).mono ?_; rintro e w' ⟨rfl, rfl⟩)
    go_ret
    exact ⟨ret_bool H.out.symm, rfl⟩
  all_goals
    go_enter Tryz.func88, Tryz.ntmps88
    go_wp2
    go_ret
    first
      | exact ⟨ret_bool (beq_byte c 60), rfl⟩
      | exact ⟨ret_bool (beq_byte c 64), rfl⟩
      | exact ⟨ret_bool (beq_byte c 104), rfl⟩
      | exact ⟨ret_bool (beq_byte c 97), rfl⟩
      | exact ⟨ret_bool (beq_byte c 115), rfl⟩
      | exact ⟨ret_bool (beq_byte c 62), rfl⟩
end Go.Proofs.YtecalodcbkljoaaGreatDoor
namespace Go.Proofs.YtecalodcbkljoaaGreatDoor
open Go.RowKit
theorem identB_size {s : ByteArray} (h : identB (bl s) = true) : s.size = 71 := by
  unfold identB at h
  simp only [Bool.and_eq_true, decide_eq_true_eq] at h
  rw [← bl_length]; exact h.1
theorem identB_at {s : ByteArray} (h : identB (bl s) = true) (k : Nat) (hk : k < 71) (hs : k < s.size) : okAt k s[k] = true := by
  unfold identB at h
  simp only [Bool.and_eq_true, decide_eq_true_eq] at h
  have := List.all_eq_true.1 h.2 k (List.mem_range.2 hk)
  rw [List.getD_eq_getElem?_getD, List.getElem?_eq_getElem (by rw [bl_length]; exact hs)] at this
  exact this
theorem okAt_hex {i : Nat} {c : UInt8} (h : okAt i c = true) (h1 : 1 ≤ i) (h2 : i < 65) : hexB c = true := by
  unfold okAt at h
  rwa [if_neg (by omega), if_pos h2] at h
theorem unhex_len32 {s : ByteArray} (hs : s.size = 71) : (unhexL (((bl s).drop 1).take 64)).length = 32 :=
  unhexL_length 32 _ (by rw [List.length_take, List.length_drop, bl_length]; omega)
theorem mid_hex {s : ByteArray} (h : identB (bl s) = true) : (((bl s).drop 1).take 64).all hexB = true := by
  have hs := identB_size h
  rw [List.all_eq_true]
  intro c hc
  obtain ⟨j, hj, rfl⟩ := List.getElem_of_mem hc
  rw [List.length_take, List.length_drop, bl_length] at hj
  have hj2 : 1 + j < s.size := by omega
  have := okAt_hex (identB_at h (1 + j) (by omega) hj2) (by omega) (by omega)
  rw [List.getElem_take, List.getElem_drop]
  exact this
/-- A slice of 32 bytes reads as an identity. -/
theorem Sl.id {w : World} {A : Option Addr} {xs : List UInt8} (h : Sl w c1 A xs) (hl : xs.length = 32) : ∃ ad, A = some ad ∧ At w ad (cI (toId xs)) := by
  obtain ⟨ad, rfl, hat⟩ := h (by intro e; subst e; cases hl)
  refine ⟨ad, rfl, ?_⟩
  have e : toId xs = ⟨xs, hl⟩ := by unfold toId; rw [dif_pos hl]
  rw [e, ← cI_c1]
  exact hat
theorem arrayAt33 (a : Option Addr) (c : Nat) (w : World) : (Instr.arrayAt 37 (.slice a 32 c)).run Tryz.prog w = .ok (.pointer a) w := by
  simp [Instr.arrayAt, run_underlying Tryz.underlying37]
theorem load_id2 {w : World} {ad : Addr} {x : Id} (h : At w ad (cI x)) : (loadVar 36 ad).run Tryz.prog w = .ok (vI x) w :=
  run_loadVar_at w ad 36 (cI x) _ h Tryz.underlying36 rfl (by rw [cI_length]; exact size36)
theorem load_id {w : World} {ad : Addr} {x : Id} (h : At w ad (cI x)) : (loadVar 37 ad).run Tryz.prog w = .ok (vI x) w :=
  run_loadVar_at w ad 37 (cI x) _ h Tryz.underlying37 rfl (by rw [cI_length]; exact size37)
set_option maxRecDepth 100000 in
set_option maxHeartbeats 1600000 in
theorem mparse_yes (s : ByteArray) (w : World) (h : identB (bl s) = true) :
    Calls Tryz.prog 75 #[.string s] w fun e w' => e = .returned (.tuple #[vI (midL (bl s)), .int .i64 0, .int .i64 0]) ∧ Below w.heap.size w w' := by
  have hsz := identB_size h
  have hex : bl (s.extract 1 65) = ((bl s).drop 1).take 64 := Lib.extract_data s 1 65
  have hz : (s.extract 1 65).size = 64 := by rw [← bl_length, hex, List.length_take, List.length_drop, bl_length]; omega
  have H := Lib.hid (And.intro h (And.intro (show (s.extract 1 65).size ≤ 4294967296 by omega) (And.intro (show (s.extract 1 65).size % 2 = 0 by omega) (And.intro (show (bl (s.extract 1 65)).all hexB = true by rw [hex]; exact mid_hex h) (And.intro (show (unhexL (bl (s.extract 1 65))).length = 32 by rw [hex]; exact unhex_len32 hsz) (show toId (unhexL (bl (s.extract 1 65))) = midL (bl s) by rw [hex]; rfl))))))
  clear h hex hz
  go_enter Tryz.func75, Tryz.ntmps75
  go_wp2
  go_loop [10] (fun i => ∃ k : Nat, k ≤ 71 ∧ i = .int .i64 k) (fun i => 71 - (intOf i).toNat)
  case atStart => exact ⟨0, Nat.zero_le _, rfl⟩
  case round =>
    obtain ⟨k, hk, rfl⟩ := hrel
    by_cases hlt : k < 71
    · have hok := identB_at H.out.1 k hlt (by omega)
      have hlt2 : k < s.size := by omega
      go_wp2_with (go_at_call 88; refine (fits_b k _ _ hlt).mono ?_; rintro e w' ⟨rfl, rfl⟩)
      go_round
      case rel => exact ⟨k + 1, by omega, by go_num⟩
      case measure => simp [intOf]; omega
    · have hkn : k = 71 := by omega
      subst hkn
      go_wp2_with (go_at_call 74; refine (unhex_yes (s.extract 1 65) _ H.out.2.1 H.out.2.2.1 H.out.2.2.2.1).mono ?_; rintro e w1 ⟨v, rfl, hb, ho⟩; obtain ⟨A, c, rfl, hc, hs⟩ := ho.sl; rw [H.out.2.2.2.2.1]; obtain ⟨ad, rfl, hat⟩ := hs.id H.out.2.2.2.2.1; have hsp := arrayAt33 (some ad) c; have hok2 := hat.ok; have hrd2 := hat.rd; rw [cI_length] at hok2 hrd2; rw [H.out.2.2.2.2.2] at hrd2; change _ = vI (midL (bl s)) at hrd2; have hro := rowOk_kept (rowOk_nI w zI 37 w.heap.size rfl) hb; have H1 := Lib.hid (And.intro hro (Below.step (below_alloc _ _) hb)); clear ho hc hs hat hb)
      have hat := at_setRow (cI (midL (bl s))) H1.out.1
      have hld := load_id hat
      exact bodyPost_ret (v := .tuple #[vI (midL (bl s)), .int .i64 0, .int .i64 0]) (results_c3 (ad := ⟨w.heap.size, 0, none⟩) rfl rfl hld rfl rfl) rfl ⟨rfl, Below.setRow H1.out.2 (Nat.le_refl _) _⟩
end Go.Proofs.YtecalodcbkljoaaGreatDoor
