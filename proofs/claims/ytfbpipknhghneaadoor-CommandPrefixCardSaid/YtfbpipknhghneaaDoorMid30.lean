/- msgid.Parse: the identity of a message identifier, or the code of an error. -/
import Derived.Test.YtfbpipknhghneaaDoorMsg30
import Derived.Test.YtfbpipknhghneaaDoorCell
namespace Go.Proofs.YtfbpipknhghneaaDoor
open Go.RowKit
theorem identB_size {s : ByteArray} (h : identB (bl s) = true) : s.size = 71 := by
  unfold identB at h
  simp only [Bool.and_eq_true, decide_eq_true_eq] at h
  rw [← bl_length]; exact h.1
theorem identB_at {s : ByteArray} (h : identB (bl s) = true) (k : Nat) (hk : k < 71) (hs : k < s.size) : okAt k s[k] = true := by
  unfold identB at h
  simp only [Bool.and_eq_true, decide_eq_true_eq] at h
  have := List.all_eq_true.1 h.2 k (List.mem_range.2 hk)
  rw [List.getD_eq_getElem?_getD, List.getElem?_eq_getElem (by rw [bl_length]; exact hs)] at this
  exact this
theorem okAt_hex {i : Nat} {c : UInt8} (h : okAt i c = true) (h1 : 1 ≤ i) (h2 : i < 65) : hexB c = true := by
  unfold okAt at h
  rwa [if_neg (by omega), if_pos h2] at h
theorem unhex_len32 {s : ByteArray} (hs : s.size = 71) : (unhexL (((bl s).drop 1).take 64)).length = 32 :=
  unhexL_length 32 _ (by rw [List.length_take, List.length_drop, bl_length]; omega)
theorem mid_hex {s : ByteArray} (h : identB (bl s) = true) : (((bl s).drop 1).take 64).all hexB = true := by
  have hs := identB_size h
  rw [List.all_eq_true]
  intro c hc
  obtain ⟨j, hj, rfl⟩ := List.getElem_of_mem hc
  rw [List.length_take, List.length_drop, bl_length] at hj
  have hj2 : 1 + j < s.size := by omega
  have := okAt_hex (identB_at h (1 + j) (by omega) hj2) (by omega) (by omega)
  rw [List.getElem_take, List.getElem_drop]
  exact this
/-- A slice of 32 bytes reads as an identity. -/
theorem Sl.id {w : World} {A : Option Addr} {xs : List UInt8} (h : Sl w c1 A xs) (hl : xs.length = 32) : ∃ ad, A = some ad ∧ At w ad (cI (toId xs)) := by
  obtain ⟨ad, rfl, hat⟩ := h (by intro e; subst e; cases hl)
  refine ⟨ad, rfl, ?_⟩
  have e : toId xs = ⟨xs, hl⟩ := by unfold toId; rw [dif_pos hl]
  rw [e, ← cI_c1]
  exact hat
theorem arrayAt33 (a : Option Addr) (c : Nat) (w : World) : (Instr.arrayAt 24 (.slice a 32 c)).run Tryd.prog w = .ok (.pointer a) w := by
  simp [Instr.arrayAt, run_underlying Tryd.underlying24]
theorem load_id2 {w : World} {ad : Addr} {x : Id} (h : At w ad (cI x)) : (loadVar 108 ad).run Tryd.prog w = .ok (vI x) w :=
  run_loadVar_at w ad 108 (cI x) _ h Tryd.underlying108 rfl (by rw [cI_length]; exact size108)
theorem load_id {w : World} {ad : Addr} {x : Id} (h : At w ad (cI x)) : (loadVar 24 ad).run Tryd.prog w = .ok (vI x) w :=
  run_loadVar_at w ad 24 (cI x) _ h Tryd.underlying24 rfl (by rw [cI_length]; exact size24)
set_option maxRecDepth 100000 in
set_option maxHeartbeats 1600000 in
theorem mparse_yes (s : ByteArray) (w : World) (h : identB (bl s) = true) :
    Calls Tryd.prog 78 #[.string s] w fun e w' => e = .returned (.tuple #[vI (midL (bl s)), .int .i64 0, .int .i64 0]) ∧ Below w.heap.size w w' := by
  have hsz := identB_size h
  have hex : bl (s.extract 1 65) = ((bl s).drop 1).take 64 := Lib.extract_data s 1 65
  have hz : (s.extract 1 65).size = 64 := by rw [← bl_length, hex, List.length_take, List.length_drop, bl_length]; omega
  have H := Lib.hid (And.intro h (And.intro (show (s.extract 1 65).size ≤ 4294967296 by omega) (And.intro (show (s.extract 1 65).size % 2 = 0 by omega) (And.intro (show (bl (s.extract 1 65)).all hexB = true by rw [hex]; exact mid_hex h) (And.intro (show (unhexL (bl (s.extract 1 65))).length = 32 by rw [hex]; exact unhex_len32 hsz) (show toId (unhexL (bl (s.extract 1 65))) = midL (bl s) by rw [hex]; rfl))))))
  clear h hex hz
  go_enter Tryd.func78, Tryd.ntmps78
  go_wp2
  go_loop [10] (fun i => ∃ k : Nat, k ≤ 71 ∧ i = .int .i64 k) (fun i => 71 - (intOf i).toNat)
  case atStart => exact ⟨0, Nat.zero_le _, rfl⟩
  case round =>
    obtain ⟨k, hk, rfl⟩ := hrel
    by_cases hlt : k < 71
    · have hok := identB_at H.out.1 k hlt (by omega)
      have hlt2 : k < s.size := by omega
      go_wp2_with (go_at_call 90; refine (fits_b k _ _ hlt).mono ?_; rintro e w' ⟨rfl, rfl⟩)
      go_round
      case rel => exact ⟨k + 1, by omega, by go_num⟩
      case measure => simp [intOf]; omega
    · have hkn : k = 71 := by omega
      subst hkn
      go_wp2_with (go_at_call 91; refine (unhex_yes (s.extract 1 65) _ H.out.2.1 H.out.2.2.1 H.out.2.2.2.1).mono ?_; rintro e w1 ⟨v, rfl, hb, ho⟩; obtain ⟨A, c, rfl, hc, hs⟩ := ho.sl; rw [H.out.2.2.2.2.1]; obtain ⟨ad, rfl, hat⟩ := hs.id H.out.2.2.2.2.1; have hsp := arrayAt33 (some ad) c; have hok2 := hat.ok; have hrd2 := hat.rd; rw [cI_length] at hok2 hrd2; rw [H.out.2.2.2.2.2] at hrd2; change _ = vI (midL (bl s)) at hrd2; have hro := rowOk_kept (rowOk_nI w zI 24 w.heap.size rfl) hb; have H1 := Lib.hid (And.intro hro (Below.step (below_alloc _ _) hb)); clear ho hc hs hat hb)
      have hat := at_setRow (cI (midL (bl s))) H1.out.1
      have hld := load_id hat
      exact bodyPost_ret (v := .tuple #[vI (midL (bl s)), .int .i64 0, .int .i64 0]) (results_c3 (ad := ⟨w.heap.size, 0, none⟩) rfl rfl hld rfl rfl) rfl ⟨rfl, Below.setRow H1.out.2 (Nat.le_refl _) _⟩
end Go.Proofs.YtfbpipknhghneaaDoor
