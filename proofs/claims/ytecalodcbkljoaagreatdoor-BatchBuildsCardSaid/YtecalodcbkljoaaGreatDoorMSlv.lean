/- What the program finds in a damaged text: batch.Salvage. -/
import Derived.Test.YtecalodcbkljoaaGreatDoorMUnp
import Derived.Test.YtecalodcbkljoaaGreatDoorMRsl
namespace Go.Proofs.YtecalodcbkljoaaGreatDoor
open Go.RowKit
theorem Own.oneN {α : Type} {w w' : World} {base : Nat} {e : TypeId} {s : Nat} {enc : α → List Value} {v : Value} {xs : List α} {g : Nat} (h : Own w base e s enc v xs) (ho : One g w w') (hg : ∀ k, v.ownBlock = some k → k ≠ g) : Own w' base e s enc v xs := by
  refine ⟨h.1, h.2.imp id fun ⟨k, cap, cur, a1, a2, a3, r⟩ => ⟨k, cap, cur, a1, a2, ?_, r⟩⟩
  rw [ho.out k (Array.getElem?_eq_some_iff.1 a3).1 (hg k (by rw [a1]; rfl))]
  exact a3
/-- A slice of items that a call returns. -/
def SlQ (l : List It) (w : World) (e : Ending) (w' : World) : Prop := ∃ A c, e = .returned (.slice A l.length c) ∧ l.length ≤ c ∧ Sl w' cX A l ∧ Below w.heap.size w w'
theorem itemP_err' {s : List UInt8} {a : Nat} {e : Int} {k : Nat} (h : itemP s a = .error (e, k)) : e ≠ 0 := by
  unfold itemP at h
  split at h
  · cases h
    decide
  · split at h
    · cases h
      decide
    · simp only [] at h
      split at h
      · cases h
        decide
      · split at h
        · cases h
          decide
        · split at h
          · cases h
            decide
          · cases h
set_option maxRecDepth 100000 in
set_option maxHeartbeats 6400000 in
theorem salvage_s (s : ByteArray) (w : World) (hL : Laid w) (hsz : s.size ≤ 1073741824) : Calls Tryz.prog 15 #[.string s] w (SlQ (salvP (bl s) 0) w) := by
  have hS := bl_length s
  have HZ := Lib.hid hsz
  have HLA := Lib.hid hL
  clear hsz hL
  go_enter Tryz.func15, Tryz.ntmps15
  go_wp2
  go_loopw [3, 4] (fun v i wr => ∃ (a : Nat) (l : List It), a ≤ s.size ∧ i = .int .i64 (a : Int) ∧ l.length ≤ a ∧ Own wr w.heap.size 64 33 cX v l ∧ Below w.heap.size w wr ∧ salvP (bl s) 0 = l ++ salvP (bl s) a) (fun _ i _ => s.size - (intOf i).toNat)
  case atStart => exact ⟨0, [], Nat.zero_le _, rfl, Nat.zero_le _, Own.nil _ _ _ _ _, Below.refl _ _, rfl⟩
  case round =>
    obtain ⟨a, l, ha, rfl, hl, ho, hb, hsv⟩ := hrel
    have hz := HZ.out
    obtain ⟨g, hg⟩ : ∃ g, wr.heap.size = g := ⟨_, rfl⟩
    obtain ⟨W1, hW1⟩ : ∃ W1, wr.alloc (.cells (aU ⟨s, (a : Int), 0, 0⟩) 73) = W1 := ⟨_, rfl⟩
    have H1 := Lib.hid (show Row W1 g (cU ⟨s, (a : Int), 0, 0⟩) 73 ∧ W1.heap.size = g + 1 ∧ FreeG g ∧ w.heap.size ≤ g ∧ Own W1 w.heap.size 64 33 cX u3 l ∧ Below w.heap.size w W1 ∧ (∀ k, u3.ownBlock = some k → k ≠ g) ∧ Laid W1 from by
      subst hW1 hg
      exact ⟨Row.new wr (cU ⟨s, (a : Int), 0, 0⟩) _, by simp, HLA.out.free hb.size, hb.size, ho.keep (below_alloc _ _), Below.step hb (below_alloc _ _), fun k hk => Nat.ne_of_lt (ho.lt k hk).2, (HLA.out.keep hb).keep (below_alloc _ _)⟩)
    have HIT := Lib.hid (item_c g s a W1 H1.out.2.2.2.2.2.2.2 H1.out.2.2.1 H1.out.1 hz ha)
    have HLL := Lib.hid hl
    clear ho hb hl
    cases hi : itemP (bl s) a with
    | ok u =>
      obtain ⟨y, c⟩ := u
      rw [hi] at HIT
      obtain ⟨hlt, hc⟩ := itemP_lt hi
      rw [salvP_ok hi] at hsv
      have HSV := Lib.hid (show salvP (bl s) 0 = (l ++ [y]) ++ salvP (bl s) c ∧ (l ++ [y]).length ≤ c ∧ c ≤ s.size from ⟨by rw [hsv, List.append_assoc]; rfl, by rw [List.length_append, List.length_singleton]; have := HLL.out; omega, by omega⟩)
      clear hsv hi hc
      go_wp2_with (first
        | (go_at_call 32; refine HIT.out.mono ?_; rintro en w5 ⟨rfl, ho5, hr5⟩; rw [show itemV (.ok (y, c)) = y from rfl]; obtain ⟨W6, hW6⟩ : ∃ W6, w5.alloc (.cells (aX y) 64) = W6 := ⟨_, rfl⟩; obtain ⟨g6, hg6⟩ : ∃ g6, w5.heap.size = g6 := ⟨_, rfl⟩; have R6 : Row W6 g6 (cX y) 64 := (by rw [← hW6, ← hg6]; exact Row.new w5 (cX y) _); obtain ⟨⟨r1, r2, -⟩, -, -⟩ := rowX R6; have RG : Row W6 g (cU ⟨s, (c : Int), 0, 0⟩) 73 := (by rw [← hW6]; exact hr5.1.keep (below_alloc _ _)); have c2 : W6.cell? ⟨g, 2, none⟩ = some (.int .i64 0) := (RG.cell 2).trans rfl; have H6 := Lib.hid (show Own W6 w.heap.size 64 33 cX u3 l ∧ Below w.heap.size w W6 ∧ Row W6 g (cU ⟨s, (c : Int), 0, 0⟩) 73 from ⟨by rw [← hW6]; exact (H1.out.2.2.2.2.1.oneN ho5 H1.out.2.2.2.2.2.2.1).keep (below_alloc _ _), by rw [← hW6]; exact Below.step (H1.out.2.2.2.2.2.1.trans (ho5.below H1.out.2.2.2.1 (by have := H1.out.2.1; have := H1.out.2.2.2.1; omega))) (below_alloc _ _), RG⟩); clear ho5 hr5 R6 RG)
        | (at_builtin; refine wpList_append_sl _ rfl (.tmp 19) (.tmp 21) 22 rfl w.heap.size 64 33 48 cX underXs rowXX (by decide) cX_length cX_one u3 l rfl (H6.out.1.keep (below_alloc _ _)) (some ⟨W6.heap.size, 0, none⟩) 1 1 [y] rfl rfl (sl_newX W6 y _) (by have := HLL.out; omega) (by have := HLL.out; omega) (by have := H6.out.2.1.size; simp; omega) ?_))
      intro v2 w7 ho7 hg7
      have hbb := Below.step H6.out.2.1 (below_alloc W6 (.cells (aX y) 64))
      have hb7 := Own.grew (H6.out.1.keep (below_alloc W6 (.cells (aX y) 64))) hg7 hbb (Nat.le_refl _) hbb.size
      have hr7 : Row w7 g (cU ⟨s, (c : Int), 0, 0⟩) 73 := (H6.out.2.2.keep (below_alloc _ _)).same (hg7.block g (Nat.lt_of_lt_of_le H6.out.2.2.lt (below_alloc _ _).size) (fun e => H1.out.2.2.2.2.2.2.1 g e.symm rfl))
      have c1 : w7.cell? ⟨g, 1, none⟩ = some (.int .i64 (c : Int)) := (hr7.cell 1).trans rfl
      have H7 := Lib.hid (And.intro ho7 hb7)
      clear ho7 hg7 hbb hb7 r1 r2 hr7
      go_wp2
      go_roundw
      case rel => exact ⟨c, l ++ [y], HSV.out.2.2, rfl, HSV.out.2.1, H7.out.1, H7.out.2, HSV.out.1⟩
      case measure => have := HSV.out.2.2; simp [intOf]; omega
    | error er =>
      obtain ⟨e, j⟩ := er
      rw [hi] at HIT
      have he := itemP_err' hi
      have hei : (e == 0) = false := by simpa using he
      have hai : (a : Int) ≤ (s.size : Int) := by omega
      rcases hn : nlAt ((bl s).drop a) with _ | n
      · rw [salvP_none hi hn, List.append_nil] at hsv
        have HSV := Lib.hid hsv
        have HOW := H1.out.2.2.2.2.1
        obtain ⟨Al, cl, rfl, hcl, hsl⟩ := HOW.sl
        have HC := Lib.hid hcl
        have HX := Lib.hid (show Lib.indexByte (s.extract a s.size).data.toList ((10 : Int).toNat.toUInt8) = -1 from by
          have h := nlAt_index ((bl s).drop a)
          rw [hn, ← bl_from] at h
          exact h)
        clear hsv hi hn he hsl hcl HOW
        go_wp2_with (first
          | (go_at_call 32; refine HIT.out.mono ?_; rintro en w5 ⟨rfl, ho5, hr5⟩; rw [show itemV (.error (e, j)) = zX from rfl]; obtain ⟨-, at5, hr5⟩ := hr5; have RG := hr5.keep (below_alloc w5 (.cells (aX zX) 64)); have c2 : (w5.alloc (.cells (aX zX) 64)).cell? ⟨g, 2, none⟩ = some (.int .i64 e) := (RG.cell 2).trans rfl; have H5 := Lib.hid (show Own (w5.alloc (.cells (aX zX) 64)) w.heap.size 64 33 cX (.slice Al l.length cl) l ∧ Below w.heap.size w (w5.alloc (.cells (aX zX) 64)) from ⟨(H1.out.2.2.2.2.1.oneN ho5 H1.out.2.2.2.2.2.2.1).keep (below_alloc _ _), Below.step (H1.out.2.2.2.2.2.1.trans (ho5.below H1.out.2.2.2.1 (by have := H1.out.2.1; have := H1.out.2.2.2.1; omega))) (below_alloc _ _)⟩); clear ho5 hr5 RG)
          | (go_at_call 44; refine (Tryz.strings_IndexByte _ _ _).mono ?_; rintro en w6 ⟨rfl, hw6⟩; obtain rfl := hw6.symm; rw [HX.out]))
        go_ret
        rw [HSV.out]
        obtain ⟨A9, c9, e9, h9, s9⟩ := H5.out.1.sl
        injection e9 with e1 e2 e3
        subst e1 e3
        exact ⟨Al, cl, rfl, h9, s9, H5.out.2⟩
      · rw [salvP_skip hi hn] at hsv
        have hlt := nlAt_lt hn
        rw [hS] at hlt
        have HX := Lib.hid (show Lib.indexByte (s.extract a s.size).data.toList ((10 : Int).toNat.toUInt8) = (n : Int) from by
          have h := nlAt_index ((bl s).drop a)
          rw [hn, ← bl_from] at h
          exact h)
        have hn0 : ¬ (n : Int) < 0 := by omega
        have hni : (a : Int) + (n : Int) ≤ 1073741824 := by omega
        have HSV := Lib.hid (show salvP (bl s) 0 = l ++ salvP (bl s) (a + n + 1) ∧ l.length ≤ a + n + 1 from ⟨hsv, by have := HLL.out; omega⟩)
        clear hsv hi hn he
        go_wp2_with (first
          | (go_at_call 32; refine HIT.out.mono ?_; rintro en w5 ⟨rfl, ho5, hr5⟩; rw [show itemV (.error (e, j)) = zX from rfl]; obtain ⟨-, at5, hr5⟩ := hr5; have RG := hr5.keep (below_alloc w5 (.cells (aX zX) 64)); have c2 : (w5.alloc (.cells (aX zX) 64)).cell? ⟨g, 2, none⟩ = some (.int .i64 e) := (RG.cell 2).trans rfl; have H5 := Lib.hid (show Own (w5.alloc (.cells (aX zX) 64)) w.heap.size 64 33 cX u3 l ∧ Below w.heap.size w (w5.alloc (.cells (aX zX) 64)) from ⟨(H1.out.2.2.2.2.1.oneN ho5 H1.out.2.2.2.2.2.2.1).keep (below_alloc _ _), Below.step (H1.out.2.2.2.2.2.1.trans (ho5.below H1.out.2.2.2.1 (by have := H1.out.2.1; have := H1.out.2.2.2.1; omega))) (below_alloc _ _)⟩); clear ho5 hr5 RG)
          | (go_at_call 44; refine (Tryz.strings_IndexByte _ _ _).mono ?_; rintro en w6 ⟨rfl, hw6⟩; obtain rfl := hw6.symm; rw [HX.out]))
        go_roundw
        case rel => exact ⟨a + n + 1, l, by omega, by go_num, HSV.out.2, H5.out.1, H5.out.2, HSV.out.1⟩
        case measure => simp [intOf]; omega
end Go.Proofs.YtecalodcbkljoaaGreatDoor
