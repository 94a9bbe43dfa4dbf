/- ascii.Words and ascii.Squeeze. -/
import Derived.Test.YtnljplnjdbjplaaDoorSpl
namespace Go.Proofs.YtnljplnjdbjplaaDoor
open Go.RowKit
/-- A list of bytes as a string. -/
def mkS (l : List UInt8) : ByteArray := ⟨l.toArray⟩
theorem bl_mkS (l : List UInt8) : bl (mkS l) = l := by simp [bl, mkS]
theorem mkS_bl (s : ByteArray) : mkS (bl s) = s := by simp [bl, mkS]
/-- A word, if it is one; the words of a list of bytes, the first of them begun. -/
def fl (cur : List UInt8) : List (List UInt8) := if cur.isEmpty = true then [] else [cur]
def wl : List UInt8 → List UInt8 → List (List UInt8)
  | cur, [] => fl cur
  | cur, b :: r => if blankB b = true then fl cur ++ wl [] r else wl (cur ++ [b]) r
theorem fl_nil : fl [] = [] := rfl
theorem fl_cons {cur : List UInt8} (h : cur ≠ []) : fl cur = [cur] := by
  unfold fl
  rw [if_neg (by simpa using h)]
theorem wl_length : ∀ (l cur : List UInt8), (wl cur l).length ≤ l.length + 1
  | [], cur => by unfold wl fl; split <;> simp
  | b :: r, cur => by
    unfold wl
    have h1 := wl_length r []
    have h2 := wl_length r (cur ++ [b])
    have h3 : (fl cur).length ≤ 1 := by unfold fl; split <;> simp
    split <;> simp <;> omega
theorem wl_skip (l : List UInt8) : wl [] l = wl [] (l.drop (runL blankB l)) := by
  induction l with
  | nil => rfl
  | cons b r ih =>
    unfold runL
    rw [List.takeWhile_cons]
    by_cases h : blankB b = true
    · rw [if_pos h, wl, if_pos h, fl_nil, List.nil_append, ih]
      rfl
    · rw [if_neg h]
      rfl
theorem wl_word (l : List UInt8) : ∀ cur, wl cur l = fl (cur ++ l.take (runL (fun c => !blankB c) l)) ++ wl [] (l.drop (runL (fun c => !blankB c) l)) := by
  induction l with
  | nil => intro cur; simp [runL, wl, fl_nil]
  | cons b r ih =>
    intro cur
    unfold runL
    rw [List.takeWhile_cons]
    by_cases h : blankB b = true
    · rw [if_neg (by simp [h]), wl, if_pos h]
      simp only [List.length_nil, List.take_zero, List.append_nil, List.drop_zero]
      rw [show wl [] (b :: r) = fl [] ++ wl [] r by rw [wl, if_pos h], fl_nil, List.nil_append]
    · rw [if_pos (by simp [h]), wl, if_neg h, ih (cur ++ [b])]
      simp only [List.length_cons, List.take_succ_cons, List.drop_succ_cons, List.append_assoc, List.singleton_append]
      rfl
/-- The words of a string. -/
def words (s : ByteArray) : List ByteArray := (wl [] (bl s)).map mkS
theorem words_length (s : ByteArray) : (words s).length ≤ s.size + 1 := by
  unfold words
  rw [List.length_map, ← bl_length]
  exact wl_length _ _
theorem extract_mkS (s : ByteArray) (a b : Nat) : s.extract a b = mkS (((bl s).drop a).take (b - a)) := by
  rw [← mkS_bl (s.extract a b)]
  congr 1
  unfold bl
  rw [Lib.extract_data]
theorem words_step (s : ByteArray) (k f t : Nat) (hf : k + runL blankB ((bl s).drop k) = f) (ht : f + runL (fun c => !blankB c) ((bl s).drop f) = t) (xs : List ByteArray) (h : xs ++ (wl [] ((bl s).drop k)).map mkS = words s) :
    xs ++ (if f < t then [s.extract f t] else []) ++ (wl [] ((bl s).drop t)).map mkS = words s := by
  rw [← h, List.append_assoc]
  congr 1
  rw [wl_skip ((bl s).drop k), List.drop_drop, hf, wl_word ((bl s).drop f) [], List.drop_drop, ht, List.map_append, List.nil_append]
  congr 1
  have hn : runL (fun c => !blankB c) ((bl s).drop f) = t - f := by omega
  rw [hn]
  by_cases hlt : f < t
  · rw [if_pos hlt, extract_mkS, fl_cons, List.map_singleton]
    intro e
    have h1 := congrArg List.length e
    have h2 := runL_le (fun c => !blankB c) ((bl s).drop f)
    rw [hn] at h2
    rw [List.length_take] at h1
    simp only [List.length_nil] at h1
    omega
  · rw [if_neg hlt, show t - f = 0 by omega, List.take_zero]
    rfl
theorem drop_runL_le (p : UInt8 → Bool) (s : ByteArray) (k : Nat) (hk : k ≤ s.size) : k + runL p ((bl s).drop k) ≤ s.size := by
  have := runL_le p ((bl s).drop k)
  rw [List.length_drop, bl_length] at this
  omega
theorem runL_pos_blank (s : ByteArray) (k : Nat) (hk : k < s.size) : k < k + runL blankB ((bl s).drop k) + runL (fun c => !blankB c) ((bl s).drop (k + runL blankB ((bl s).drop k))) := by
  cases hp : blankB s[k] with
  | true => rw [runL_yes blankB s k hk hp]; omega
  | false =>
    rw [runL_no blankB s k hk hp, Nat.add_zero, runL_yes (fun c => !blankB c) s k hk (by simp [hp])]
    omega
set_option maxRecDepth 100000 in
set_option maxHeartbeats 1600000 in
theorem words21 (s : ByteArray) (w : World) (hs : s.size ≤ 1000000) :
    Calls Tryd.prog 21 #[.string s] w fun e w' => ∃ v, e = .returned v ∧ Own w' w.heap.size 9 1 cS v (words s) ∧ Below w.heap.size w w' := by
  have hcf1 : ∀ (args : Array Value) (W : World), Sem.run Tryd.prog (callFunc 45 args) W = .ok (.enter 45 args) W := enters_of Tryd.func45 (by kernel_rfl) rfl
  have hcf2 : ∀ (args : Array Value) (W : World), Sem.run Tryd.prog (callFunc 53 args) W = .ok (.enter 53 args) W := enters_of Tryd.func53 (by kernel_rfl) rfl
  have hk1 : ∀ k W, k ≤ s.size → _ := fun k W h => skip_p 45 blankB isBlank_b hcf1 s k W h (by omega)
  have hk2 : ∀ k W, k ≤ s.size → _ := fun k W h => skip_p 53 (fun c => !blankB c) notBlank_b hcf2 s k W h (by omega)
  have HK := Lib.hid (And.intro hk1 (And.intro hk2 hs))
  clear hk1 hk2 hcf1 hcf2 hs
  go_enter Tryd.func21, Tryd.ntmps21
  go_wp2_with fail
  go_loopw [5] (fun i wr => ∃ (k : Nat) (v : Value) (xs : List ByteArray), k ≤ s.size ∧ i = .int .i64 (k : Int) ∧ WSt w.heap.size w.heap.size (w.heap.size + 1) w s v xs wr ∧ xs ++ (wl [] ((bl s).drop k)).map mkS = words s) (fun i _ => s.size - (intOf i).toNat)
  case atStart =>
    refine ⟨0, .slice none 0 0, [], Nat.zero_le _, rfl, ⟨?_, ?_, ?_, ?_, Nat.le_refl _, by omega, by simp, Own.nil _ _ _ _ _⟩, by rw [List.drop_zero]; rfl⟩
    · exact ((Below.refl _ _).alloc (Nat.le_refl _) _).alloc (by simp) _
    · simp [go_sem]
    · simp [go_sem]
    · simp [go_sem]
  case round =>
    obtain ⟨k, v, xs, hk, rfl, hst, hws⟩ := hrel
    have hxl : xs.length ≤ 4294967296 := by
      have h1 := words_length s
      rw [← hws, List.length_append] at h1
      have := HK.out.2.2
      omega
    have r1 := hst.cs
    have r2 := hst.cw
    have HS := Lib.hid (And.intro hst (And.intro hws hxl))
    clear hst hws hxl
    by_cases hlt : k < s.size
    · obtain ⟨f, hf⟩ : ∃ f, k + runL blankB ((bl s).drop k) = f := ⟨_, rfl⟩
      obtain ⟨t, ht⟩ : ∃ t, f + runL (fun c => !blankB c) ((bl s).drop f) = t := ⟨_, rfl⟩
      have hkt : k < t := by have := runL_pos_blank s k hlt; rw [hf, ht] at this; exact this
      have hfl : f ≤ s.size := by rw [← hf]; exact drop_runL_le _ s k hk
      have htl : t ≤ s.size := by rw [← ht]; exact drop_runL_le _ s f hfl
      have hft : f ≤ t := by omega
      have hc1 := HK.out.1 k
      have hc2 := HK.out.2.1 f
      rw [hf] at hc1
      rw [ht] at hc2
      have hnx := words_step s k f t hf ht xs HS.out.2.1
      have HC := Lib.hid (And.intro hc1 (And.intro hc2 (And.intro hkt (And.intro hfl (And.intro htl (And.intro hft hnx))))))
      clear hc1 hc2 hf ht hkt hfl htl hft hnx
      have T0 := Lib.hid trivial
      by_cases hq : f < t
      · have HQ := Lib.hid hq
        clear hq
        go_wp2_with (first
          | (go_at_call 52; have hh := T0; clear hh T0; refine (HC.out.1 _ hk).mono ?_; rintro e w1 ⟨rfl, rfl⟩)
          | (go_at_call 52; refine (HC.out.2.1 _ HC.out.2.2.2.1).mono ?_; rintro e w1 ⟨rfl, rfl⟩)
          | (go_at_call 51; refine (collect51 _ _ _ w s v xs _ HS.out.1 f t HC.out.2.2.2.2.2.1 HC.out.2.2.2.2.1 HS.out.2.2 HQ.out).mono ?_; rintro e w1 ⟨rfl, v2, hst2⟩; have H2 := Lib.hid hst2; clear hst2))
        go_roundw
        case rel => exact ⟨t, v2, _, HC.out.2.2.2.2.1, rfl, H2.out, by have := HC.out.2.2.2.2.2.2; rwa [if_pos HQ.out] at this⟩
        case measure => have := HC.out.2.2.1; simp [intOf]; omega
      · have HQ := Lib.hid hq
        clear hq
        obtain rfl : f = t := by have := HQ.out; have := HC.out.2.2.2.2.2.1; omega
        go_wp2_with (first
          | (go_at_call 52; have hh := T0; clear hh T0; refine (HC.out.1 _ hk).mono ?_; rintro e w1 ⟨rfl, rfl⟩)
          | (go_at_call 52; refine (HC.out.2.1 _ HC.out.2.2.2.1).mono ?_; rintro e w1 ⟨rfl, rfl⟩)
          | (go_at_call 51; refine (collect51_no f _ _ _).mono ?_; rintro e w1 ⟨rfl, rfl⟩))
        go_roundw
        case rel => exact ⟨f, v, xs, HC.out.2.2.2.2.1, rfl, HS.out.1, by have := HC.out.2.2.2.2.2.2; rwa [if_neg HQ.out, List.append_nil] at this⟩
        case measure => have := HC.out.2.2.1; simp [intOf]; omega
    · have hkn : k = s.size := by omega
      subst hkn
      go_wp2
      go_ret
      refine ⟨v, rfl, ?_, HS.out.1.bl⟩
      have := HS.out.2.1
      rw [List.drop_eq_nil_of_le (by rw [bl_length]; exact Nat.le_refl _), wl, fl_nil, List.map_nil, List.append_nil] at this
      rw [← this]
      exact Own.mono HS.out.1.own (by omega)
end Go.Proofs.YtnljplnjdbjplaaDoor
