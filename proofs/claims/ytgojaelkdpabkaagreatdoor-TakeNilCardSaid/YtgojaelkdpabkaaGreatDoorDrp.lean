/- Taker's Drop. -/
import Derived.Test.YtgojaelkdpabkaaGreatDoorKeep
namespace Go.Proofs.YtgojaelkdpabkaaGreatDoor
open Go.RowKit
def dropT (s : Tk) : Tk × Int := if s.opn = true then (⟨s.win, false, [], s.act.foldl keepP s.kept⟩, 0) else (s, 10)
theorem fold_len (xs : List Pt) : ∀ l : List Pt, l.length ≤ 8 → (xs.foldl keepP l).length ≤ 8 := by
  induction xs with
  | nil => intro l h; exact h
  | cons x r ih => intro l h; exact ih _ (keepP_len l x h)
theorem fold_snoc (xs : List Pt) (j : Nat) (hj : j < xs.length) (l : List Pt) : (xs.take (j + 1)).foldl keepP l = keepP ((xs.take j).foldl keepP l) xs[j] := by
  rw [List.take_succ_eq_append_getElem hj, List.foldl_append]
  rfl
theorem KpP.under {b : Nat} {s' : Tk} {F F' : List Nat} {va : SlV} {w w1 w2 w3 : World} (h : Kp F F' w w1) (hb : Below w1.heap.size w1 w2) (hp : KpP b s' F' va w2 w3) : KpP b s' F va w w3 := by
  obtain ⟨F4, vk4, h1, h2⟩ := hp
  exact ⟨F4, vk4, h1, (h.trans (Kp.of_below hb)).trans h2⟩
set_option maxRecDepth 100000 in
set_option maxHeartbeats 3200000 in
theorem drop18 (b : Nat) (s : Tk) (F : List Nat) (w : World) (h : TkAt b s F w) (hk8 : s.kept.length ≤ 8) (ha : s.act.length ≤ 100) : Calls Tryz.prog 18 #[.pointer (some ⟨b, 0, none⟩)] w fun e w' => e = .returned (.int .i64 (dropT s).2) ∧ ∃ F', TkAt b (dropT s).1 F' w' ∧ Kp F F' w w' := by
  obtain ⟨va, vk, h⟩ := h
  have c1 := h.c1
  have c2 := h.c2
  rw [h.la] at c2
  have HR := Lib.hid h
  clear h
  cases ho : s.opn with
  | false =>
    rw [ho] at c1
    have HO := Lib.hid ho
    clear ho
    have e : dropT s = (s, 10) := by unfold dropT; rw [if_neg (by rw [HO.out]; decide)]
    rw [e]
    go_enter Tryz.func18, Tryz.ntmps18
    go_wp2
    go_ret
    exact ⟨rfl, F, ⟨va, vk, HR.out⟩, Kp.refl _ _⟩
  | true =>
    rw [ho] at c1
    have HO := Lib.hid ho
    clear ho
    have e : dropT s = (⟨s.win, false, [], s.act.foldl keepP s.kept⟩, 0) := by unfold dropT; rw [if_pos HO.out]
    rw [e]
    clear e
    go_enter Tryz.func18, Tryz.ntmps18
    go_wp2
    go_loopw [19] (fun i wr => ∃ (j : Nat), i = .int .i64 j ∧ j ≤ s.act.length ∧ KpP b { s with kept := (s.act.take j).foldl keepP s.kept } F va w wr) (fun i _ => s.act.length + 1 - (intOf i).toNat)
    case atStart => exact ⟨0, rfl, Nat.zero_le _, F, vk, HR.out, Kp.refl _ _⟩
    case round =>
      obtain ⟨j, rfl, hj, hKP⟩ := hrel
      obtain ⟨F', vk', hT, hKp⟩ := hKP
      by_cases hlt : j < s.act.length
      · have hlt1 : (j : Int) < (s.act.length : Int) := by omega
        have hsl : Sl wr cA va.1 s.act := Own.slOf hT.oa
        obtain ⟨ad, hae, ok1, rd1, -⟩ := Sl.pt hsl hlt
        obtain ⟨p, hp⟩ : ∃ p, s.act[j] = p := ⟨_, rfl⟩
        rw [hp] at rd1
        have HP := Lib.hid hp
        have HT := Lib.hid (And.intro hT hKp)
        obtain ⟨W3, hW3⟩ : ∃ W3, wr.alloc (.cells (aA p) 86) = W3 := ⟨_, rfl⟩
        obtain ⟨g3, hg3⟩ : ∃ g3, wr.heap.size = g3 := ⟨_, rfl⟩
        have H3 := Lib.hid (And.intro (show Row W3 g3 (cA p) 86 by rw [← hW3, ← hg3]; exact Row.new wr (cA p) _) (show Below wr.heap.size wr W3 by rw [← hW3]; exact below_alloc _ _))
        have r3 := (Row.okw H3.out.1 (cA_length p)).1
        have r4 : rdA W3 ⟨g3, 0, none⟩ 35 = vA p := (Row.okw H3.out.1 (cA_length p)).2
        clear hsl hp hT hKp
        go_wp2_with (go_at_call 43; refine (keep43 b _ F' va vk' p W3 (HT.out.1.keep H3.out.2) (fold_len _ _ hk8)).mono ?_; rintro e w4 ⟨rfl, hKP4⟩; have H4 := Lib.hid (KpP.under HT.out.2 (H3.out.2) hKP4); clear hKP4)
        go_roundw
        case rel => exact ⟨_, .int .i64 ((j : Int) + 1), _, _, _, _, _, _, _, ⟨j + 1, by go_num, hlt, by rw [fold_snoc _ _ hlt, HP.out]; exact H4.out⟩, by rw [hae]⟩
        case measure => simp [intOf] <;> omega
      · have hlt1 : ¬ (j : Int) < (s.act.length : Int) := by omega
        obtain rfl : j = s.act.length := by omega
        rw [List.take_length] at hT
        have f1 := hT.row.fz 1
        have f2 := hT.row.fz 2
        have k1 := hT.c1
        have k2 := hT.c2
        have HT := Lib.hid (And.intro (hT.setO false) hKp)
        clear hT hKp
        go_wp2
        go_ret
        have ha := (HT.out.1.1).setA (va' := (none, 0, 0)) (l' := []) (World.grownBy.refl _ _) (Own.nil _ _ _ _ _) (fun ad e => by cases e)
        exact ⟨rfl, _, ⟨_, _, ha.1⟩, (HT.out.2.trans HT.out.1.2).trans ha.2⟩
end Go.Proofs.YtgojaelkdpabkaaGreatDoor
